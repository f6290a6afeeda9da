/-
  Texts joined: K12 K13 K14 K15 K16 K17 K18.
-/
import Derived.Test.YtnajihlhcdedgaaZf
import Derived.Test.YtnajihlhcdedgaaZa
import Derived.IntWalk
import Derived.Deep.Cut
import Derived.Laws.MakeOwn
import Derived.Test.YtnajihlhcdedgaaZb
namespace Go.Proofs.Ytnajihlhcdedgaa
open Go.RowKit
set_option linter.unusedVariables false
set_option linter.unusedSimpArgs false

/-- The lanes behind the end. -/
def kend (s : Nat → Int) (a : Nat) (d : Int) : Nat → Int := kperm 12 (kflip (kflip (norm s a) (normA a) d) 167 128)

set_option maxRecDepth 100000 in
set_option maxHeartbeats 4000000 in
theorem k_end (w : World) (b : Nat) (u : Nat → Int) (m : Nat) (hm : m ≤ 168) (d : Int) (d0 : 0 ≤ d) (d1 : d ≤ 255) (B : Sp w b u m d false) :
    Calls Try.prog 128 #[.pointer (some ⟨b, 0, none⟩)] w fun e w' => e = .returned (.tuple #[]) ∧ Touch b w w' ∧ Sp w' b (kend u m d) 0 d true := by
  have HV : Hid (kend u m d = kperm 12 (kflip (kflip (norm u m) (normA m) d) 167 128)) := Lib.hid rfl
  have ca := B.sat
  have fa := B.free
  by_cases h168 : m = 168
  · subst h168
    go_enter Try.func128, Try.ntmps128
    go_wp2_with fail
    refine (k_permute _ b 28 139 u _ (by omega) B).mono ?_
    rintro e W1 ⟨rfl, k1, B1⟩
    clear ca fa B
    have ca := B1.sat
    have fa := B1.free
    go_upto_region 3 with (fail)
    refine abs_world (fun W => Touch b w W ∧ Sp W b (kperm 12 u) 0 d false) ⟨k1.trans (Touch.set _ _ _ _), B1.setAt 0⟩ ?_
    clear ca fa B1 k1
    rintro W2 ⟨k2, B2⟩
    have ca := B2.sat
    have cd := B2.sdom
    refine wp_region_calm 9 (by kernel_rfl) (by kernel_rfl) ?_
    simp only [List.take_succ_cons, List.take_zero, List.drop_succ_cons, List.drop_zero]
    repeat (first
      | (refine calm_skip rfl ?_; simp only [Act.put, List.setIfInBounds_toArray, List.set_cons_zero, List.set_cons_succ])
      | (refine calm_ex rfl ?_; apply Exists.intro; refine And.intro (fun w' hk => ?_) ?_; (focus (have q0 := hk.cell ca; have q1 := hk.cell cd; clear hk; go_simp; exact rfl)); simp only [Act.put, List.setIfInBounds_toArray, List.set_cons_zero, List.set_cons_succ]))
    refine calm_nil ?_
    intro W3 hkW3
    have k3 := k2.later hkW3
    have B3 := B2.kept hkW3
    clear ca cd k2 B2 hkW3
    go_wp2_with fail
    refine (k_flip _ b _ 0 d false 0 (by omega) d d0 d1 B3).mono ?_
    rintro e W4 ⟨rfl, k4, B4⟩
    have k5 := k3.trans k4
    clear k3 k4 B3
    go_wp2_with fail
    refine (k_flip _ b _ 0 d false 167 (by omega) 128 (by omega) (by omega) B4).mono ?_
    rintro e W5 ⟨rfl, k6, B5⟩
    have k7 := k5.trans k6
    clear k5 k6 B4
    go_wp2_with fail
    refine (k_permute _ b 28 139 _ _ (by omega) B5).mono ?_
    rintro e W6 ⟨rfl, k8, B6⟩
    have k9 := k7.trans k8
    clear k7 k8 B5
    have ca := B6.sat
    have cg := B6.sgive
    have fa := B6.free
    go_wp2_with fail
    refine bodyPost_end (v := .tuple #[]) (by simp [results, Try.results128, go_sem]) rfl ⟨rfl, (k9.trans (Touch.set _ _ _ _)).trans (Touch.set _ _ _ _), ?_⟩
    rw [HV.out]
    exact (B6.setAt 0).setGive true
  · have hm2 : (m : Int) ≠ 168 := by omega
    have hm3 : ((m : Int) == 168) = false := by simp [hm2]
    have HN : Hid (norm u m = u ∧ normA m = m) := Lib.hid ⟨if_neg h168, if_neg h168⟩
    go_enter Try.func128, Try.ntmps128
    go_upto_region 3 with (fail)
    clear fa
    have cd := B.sdom
    refine wp_region_calm 9 (by kernel_rfl) (by kernel_rfl) ?_
    simp only [List.take_succ_cons, List.take_zero, List.drop_succ_cons, List.drop_zero]
    repeat (first
      | (refine calm_skip rfl ?_; simp only [Act.put, List.setIfInBounds_toArray, List.set_cons_zero, List.set_cons_succ])
      | (refine calm_ex rfl ?_; apply Exists.intro; refine And.intro (fun w' hk => ?_) ?_; (focus (have q0 := hk.cell ca; have q1 := hk.cell cd; clear hk; go_simp; exact rfl)); simp only [Act.put, List.setIfInBounds_toArray, List.set_cons_zero, List.set_cons_succ]))
    refine calm_nil ?_
    intro W3 hkW3
    have k3 : Touch b w W3 := .of_kept hkW3
    have B3 := B.kept hkW3
    clear ca cd B hkW3
    go_wp2_with fail
    refine (k_flip _ b _ m d false m (by omega) d d0 d1 B3).mono ?_
    rintro e W4 ⟨rfl, k4, B4⟩
    have k5 := k3.trans k4
    clear k3 k4 B3
    go_wp2_with fail
    refine (k_flip _ b _ m d false 167 (by omega) 128 (by omega) (by omega) B4).mono ?_
    rintro e W5 ⟨rfl, k6, B5⟩
    have k7 := k5.trans k6
    clear k5 k6 B4
    go_wp2_with fail
    refine (k_permute _ b 28 139 _ _ (by omega) B5).mono ?_
    rintro e W6 ⟨rfl, k8, B6⟩
    have k9 := k7.trans k8
    clear k7 k8 B5
    have ca := B6.sat
    have cg := B6.sgive
    have fa := B6.free
    go_wp2_with fail
    refine bodyPost_end (v := .tuple #[]) (by simp [results, Try.results128, go_sem]) rfl ⟨rfl, (k9.trans (Touch.set _ _ _ _)).trans (Touch.set _ _ _ _), ?_⟩
    rw [HV.out, HN.out.1, HN.out.2]
    exact (B6.setAt 0).setGive true
end Go.Proofs.Ytnajihlhcdedgaa

namespace Go.Proofs.Ytnajihlhcdedgaa
open Go.RowKit
set_option linter.unusedVariables false
set_option linter.unusedSimpArgs false

/-- The lanes and the place when i bytes are out. -/
def gives (s : Nat → Int) (a : Nat) : Nat → (Nat → Int) × Nat
  | 0 => (s, a)
  | i + 1 => (norm (gives s a i).1 (gives s a i).2, normA (gives s a i).2 + 1)
/-- Byte a of the lanes. -/
def byteAt (s : Nat → Int) (a : Nat) : Int := s (a / 8) / 2 ^ (8 * (a % 8)) % 256
/-- The i-th byte that comes out. -/
def outs (s : Nat → Int) (a : Nat) (i : Nat) : Int := byteAt (norm (gives s a i).1 (gives s a i).2) (normA (gives s a i).2)
theorem gives_le (s : Nat → Int) {a : Nat} (ha : a ≤ 168) : ∀ i, (gives s a i).2 ≤ 168
  | 0 => ha
  | i + 1 => by
    have := gives_le s ha i
    simp only [gives, normA]
    split <;> omega

set_option maxRecDepth 100000 in
set_option maxHeartbeats 4000000 in
theorem k_Read_nil (many : Int) : Pure Try.prog 67 #[.pointer none, .int .i64 many] (.slice none 0 0) := fun w => by
  go_enter Try.func67, Try.ntmps67
  go_wp2_with fail
  go_ret
  exact ⟨rfl, Kept.refl w⟩
set_option maxRecDepth 100000 in
set_option maxHeartbeats 4000000 in
theorem k_Read_neg (b : Nat) (many : Int) (h : many < 0) : Pure Try.prog 67 #[.pointer (some ⟨b, 0, none⟩), .int .i64 many] (.slice none 0 0) := fun w => by
  go_enter Try.func67, Try.ntmps67
  go_wp2_with fail
  go_ret
  exact ⟨rfl, Kept.refl w⟩
theorem make42 (c : Nat) (h63 : (c : Int) ≤ 65536) : ∃ cs, ∀ w : World, (Instr.makeSlice 42 (.int .i64 0) (.int .i64 (c : Int))).run Try.prog w = .ok (.slice (some ⟨w.heap.size, 0, none⟩) 0 c) (w.alloc (.cells cs 5)) ∧ (w.alloc (.cells cs 5)).ownsRow w.heap.size 5 1 (.slice (some ⟨w.heap.size, 0, none⟩) 0 c) 0 [] := by
  obtain ⟨i, hi, hz0, hz1, hz2⟩ := info_parts info5
  refine ⟨madeCells (Value.int .u8 0).cells (c * i.size), fun w => ?_⟩
  have hr := run_make (P := Try.prog) w 42 5 i _ Try.underlying42 hi hz0 .i64 .i64 0 c (Int.le_refl _) (by omega) (by rw [hz2]; omega) (by omega)
  simp only [Int.toNat_zero, Int.toNat_natCast] at hr
  refine ⟨hr, ?_⟩
  have := World.ownsRow_made (base := w.heap.size) w (madeCells (Value.int .u8 0).cells (c * i.size)) c (e := 5) (size := 1) (Nat.le_refl _) (by unfold maxLen; omega) (by rw [size_madeCells, hz1])
  exact this

theorem gives_in {s : Nat → Int} (hs : ∀ i, i < 25 → in64 (s i)) (a : Nat) : ∀ i, ∀ j, j < 25 → in64 ((gives s a i).1 j)
  | 0 => hs
  | i + 1 => by
    have := gives_in hs a i
    simp only [gives, norm]
    split
    · exact kperm_in this 12
    · exact this
theorem wrap_u8 (x : Int) : IntKind.u8.wrap x = x % 256 := by simp [IntKind.wrap, IntKind.bits, IntKind.signed]
theorem kend_in (s : Nat → Int) (a : Nat) (d : Int) : ∀ i, i < 25 → in64 (kend s a d i) := by
  intro i _
  unfold kend
  exact kround_in _ _ _
/-- The bytes that come out. -/
def outsV (s : Nat → Int) (a n : Nat) : List Value := (List.range n).map fun i => Value.int .u8 (outs s a i)

set_option maxRecDepth 100000 in
set_option maxHeartbeats 4000000 in
theorem k_Read_le (w : World) (b : Nat) (s : Nat → Int) (d : Int) (p : Nat) (hp : p ≤ 168) (hs : Hid (∀ i, i < 25 → in64 (s i))) (many : Nat) (hm : many ≤ 65536) (hB : Sp w b s p d true) :
    Calls Try.prog 67 #[.pointer (some ⟨b, 0, none⟩), .int .i64 (many : Int)] w fun e w' => ∃ v, e = .returned v ∧ Touch b w w' ∧ Sp w' b (gives s p many).1 (gives s p many).2 d true ∧ w'.ownsRow w.heap.size 5 1 v many (outsV s p many) := by
  have c0 := hB.sgive
  have z0 : (0 : Int) ≤ (many : Int) := by omega
  have y1 : (many : Int) ≤ 65536 := by omega
  obtain ⟨cs, hmk0⟩ := make42 many (by omega)
  go_enter Try.func67, Try.ntmps67
  obtain ⟨hmk1, hown0⟩ := hmk0 w
  have hmk : (Instr.makeSlice 42 (.int .i64 0) (.int .i64 (many : Int))).run Try.prog w = .ok (.slice (some ⟨w.heap.size, 0, none⟩) 0 many) (w.alloc (.cells cs 5)) := hmk1
  clear hmk1 hmk0
  obtain ⟨g, hg⟩ : ∃ g, w.heap.size = g := ⟨_, rfl⟩
  rw [hg] at hmk hown0
  have hbg : b < g := hg ▸ hB.lt
  have hwg : w.heap.size ≤ g := by omega
  go_upto_region 6 with (fail)
  refine abs_world (fun W => Touch b w W ∧ Sp W b s p d true ∧ W.ownsRow g 5 1 (.slice (some ⟨g, 0, none⟩) 0 many) 0 [] ∧ g ≤ W.heap.size) ⟨Touch.alloc _ _ _, hB.alloc _, hown0, by simp; omega⟩ ?_
  rintro W1 ⟨k, B, hown, hgW⟩
  clear c0 hB hown0 hmk
  go_wp2_with fail
  go_loopw [5, 24] (fun v t' wr => ∃ i : Nat, i ≤ many ∧ t' = .int .i64 i ∧ Touch b w wr ∧ Sp wr b (gives s p i).1 (gives s p i).2 d true ∧ wr.ownsRow g 5 1 v i (outsV s p i) ∧ g ≤ wr.heap.size) (fun _ t' _ => many - (intOf t').toNat)
  case atStart => exact ⟨0, Nat.zero_le _, rfl, k, B, hown, hgW⟩
  case round =>
    clear k B hown hgW
    obtain ⟨i, hi, rfl, k, B, hown, hgW⟩ := hrel
    have zi : (0 : Int) ≤ (i : Int) := by omega
    obtain ⟨sa, sn, sc, rfl⟩ := ownsRow_slice hown
    rcases Nat.lt_or_ge i many with hlt | hge
    · have yi : (i : Int) < (many : Int) := by omega
      have hple := gives_le s (a := p) (by omega) i
      have hin0 := gives_in hs.out p i
      have HV : Hid (gives s p (i + 1) = (norm (gives s p i).1 (gives s p i).2, normA (gives s p i).2 + 1) ∧ outsV s p (i + 1) = outsV s p i ++ [.int .u8 (byteAt (norm (gives s p i).1 (gives s p i).2) (normA (gives s p i).2))]) := Lib.hid ⟨rfl, by unfold outsV; rw [List.range_succ, List.map_append]; rfl⟩
      generalize (gives s p i).1 = u at *
      generalize (gives s p i).2 = m at *
      have ca := B.sat
      have fa := B.free
      by_cases hm168 : m = 168
      · subst hm168
        go_wp2_with fail
        refine (k_permute _ b 28 139 u _ (by omega) B).mono ?_
        rintro e W2 ⟨rfl, k1, B1⟩
        have k2 := k.trans k1
        have hown2 := ownsRow_touch hown k1 hbg
        have hgW2 : g ≤ W2.heap.size := Nat.le_trans hgW k1.size
        clear k k1 ca fa B hown hgW
        have ca := B1.sat
        have fa := B1.free
        go_upto_region 11 with (fail)
        obtain ⟨m0, hm0, hm0l⟩ : ∃ m0 : Nat, Hid (m0 = 0) ∧ m0 < 168 := ⟨0, Lib.hid rfl, by omega⟩
        refine abs_world (fun W => Touch b w W ∧ Sp W b (kperm 12 u) (m0 : Int) d true ∧ W.ownsRow g 5 1 (.slice sa sn sc) i (outsV s p i) ∧ g ≤ W.heap.size) ⟨k2.trans (Touch.set _ _ _ _), by rw [hm0.out]; exact B1.setAt 0, ownsRow_touch hown2 (Touch.set _ _ _ _) hbg, by simpa [World.setCell] using hgW2⟩ ?_
        clear ca fa k2 B1 hown2 hgW2
        rintro W4 ⟨k, B, hown, hgW⟩
        have hin : ∀ j, j < 25 → in64 (kperm 12 u j) := kperm_in hin0 12
        obtain ⟨q, hq, hq25⟩ : ∃ q, m0 / 8 = q ∧ q < 25 := ⟨_, rfl, by omega⟩
        obtain ⟨r, hr, hr8⟩ : ∃ r, m0 % 8 = r ∧ r < 8 := ⟨_, rfl, by omega⟩
        obtain ⟨z, hz, hz56⟩ : ∃ z, 8 * r = z ∧ z ≤ 56 := ⟨_, rfl, by omega⟩
        have e1 : (m0 : Int).tdiv 8 = (q : Int) := by rw [Int.tdiv_eq_ediv_of_nonneg (by omega)]; omega
        have e1' : (m0 : Int) / 8 = (q : Int) := by omega
        have e2 : (m0 : Int).tmod 8 = (r : Int) := by rw [Int.tmod_eq_emod_of_nonneg (by omega)]; omega
        have e2' : (m0 : Int) % 8 = (r : Int) := by omega
        have e3 : 8 * (r : Int) = (z : Int) := by omega
        have w1 : IntKind.i64.wrap (q : Int) = (q : Int) := IntWalk.i64_in _ (by omega)
        have w2 : IntKind.i64.wrap (z : Int) = (z : Int) := IntWalk.i64_in _ (by omega)
        have z1 : (0 : Int) ≤ (q : Int) := by omega
        have z2 : (q : Int) < 25 := by omega
        have z3 : (0 : Int) ≤ (z : Int) := by omega
        have z4 : (z : Int) ≤ 64 := by omega
        have cl := B.lane (by omega) hq25
        have ca := B.sat
        have HB : Hid (byteAt (kperm 12 u) m0 = IntKind.u8.wrap ((kperm 12 u) q / 2 ^ z)) := Lib.hid (by unfold byteAt; rw [hq, hr, hz, wrap_u8])
        obtain ⟨x0, hx0, hx0a, hx0b⟩ : ∃ x0, (kperm 12 u) q = x0 ∧ 0 ≤ x0 ∧ x0 ≤ 18446744073709551615 := ⟨_, rfl, by have := hin q hq25; unfold in64 at this; omega, by have := hin q hq25; unfold in64 at this; omega⟩
        rw [hx0] at cl HB
        clear hx0 hq hr hz
        refine wp_region_marks_in (fun _ => oneMean 5 #[.int .u8 (IntKind.u8.wrap (x0 / 2 ^ z))]) 20 (by kernel_rfl) (by kernel_rfl) (fun k0 => ?_)
        simp only [List.take_succ_cons, List.take_zero, List.drop_succ_cons, List.drop_zero]
        repeat (first
          | (refine marks_ex rfl rfl (by kernel_rfl) ?_; apply Exists.intro; refine And.intro (fun w' hk => ?_) (And.intro ?_ ?_); (focus (have q0 := hk.cell cl; have q1 := hk.cell ca; clear hk; go_simp; exact rfl)); (focus (exact rfl)); simp only [Act.put, List.setIfInBounds_toArray, List.set_cons_zero, List.set_cons_succ]))
        refine marks_lay 0 rfl rfl (by kernel_rfl) (fun w' hk => ?_) ?_
        · refine ⟨_, _, by go_simp, (Kept.refl w').alloc _, ⟨_, rfl, Blk.new _ _ _⟩⟩
        simp only [Act.put, List.setIfInBounds_toArray, List.set_cons_zero, List.set_cons_succ]
        refine marks_nil ?_
        intro a'' W5 hkW5 hra
        obtain ⟨mb, hmb, rfl⟩ := hra.mark1 57 0 (by kernel_rfl) rfl
        simp only [Act.put, List.setIfInBounds_toArray, List.set_cons_zero, List.set_cons_succ]
        clear hra
        obtain ⟨nb, rfl, Bn⟩ := hmb
        have k5 := k.later hkW5
        have B5 := B.kept hkW5
        have hown5 := ownsRow_kept hown hkW5
        have hg5 : g ≤ W5.heap.size := Nat.le_trans hgW hkW5.size
        clear ca cl hkW5 k B hown
        go_wp2_with (at_builtin; refine wpList_append_at 42 5 info5 Try.underlying42 rfl (by decide) hown5 nb 0 1 1 [.int .u8 (IntKind.u8.wrap (x0 / 2 ^ z))] rfl (by intro u hu; simp at hu; subst hu; rfl) (by intro j u hj; rw [Nat.zero_add]; exact Bn.cell j (by simpa using hj)) (by omega) (by decide) (by decide) hg5 (.tmp 38) (.tmp 57) rfl rfl rfl rfl ?_; intro v' w1 hown6 hgrow hne; have k6 := k5.grown hown5 hgrow (by omega); have B6 := grown_blk B5 hown5 hgrow (by omega); have hg6 : g ≤ w1.heap.size := Nat.le_trans hg5 hgrow.size; clear hown5 hgrow k5 B5 Bn hg5; have ca := B6.sat; have fa := B6.free; have w5 : IntKind.i64.wrap ((m0 : Int) + 1) = (m0 : Int) + 1 := IntWalk.i64_in _ (by omega))
        go_roundw
        case rel => exact ⟨i + 1, by omega, by go_num, k6.trans (Touch.set _ _ _ _), by rw [HV.out.1]; show Sp _ b (kperm 12 u) ((0 + 1 : Nat) : Int) d true; rw [show ((0 + 1 : Nat) : Int) = (m0 : Int) + 1 by rw [hm0.out]; rfl]; exact B6.setAt ((m0 : Int) + 1), by rw [HV.out.2]; show World.ownsRow _ _ _ _ _ _ (outsV s p i ++ [.int .u8 (byteAt (kperm 12 u) 0)]); have h9 := HB.out; rw [hm0.out] at h9; rw [h9]; exact ownsRow_touch hown6 (Touch.set _ _ _ _) hbg, by simpa [World.setCell] using hg6⟩
        case measure => simp [intOf]; omega
      · have hm2 : (m : Int) ≠ 168 := by omega
        have hm3 : ((m : Int) == 168) = false := by simp [hm2]
        have HN : Hid (norm u m = u ∧ normA m = m) := Lib.hid ⟨if_neg hm168, if_neg hm168⟩
        have hin := hin0
        go_upto_region 11 with (fail)
        clear ca fa
        obtain ⟨q, hq, hq25⟩ : ∃ q, m / 8 = q ∧ q < 25 := ⟨_, rfl, by omega⟩
        obtain ⟨r, hr, hr8⟩ : ∃ r, m % 8 = r ∧ r < 8 := ⟨_, rfl, by omega⟩
        obtain ⟨z, hz, hz56⟩ : ∃ z, 8 * r = z ∧ z ≤ 56 := ⟨_, rfl, by omega⟩
        have e1 : (m : Int).tdiv 8 = (q : Int) := by rw [Int.tdiv_eq_ediv_of_nonneg (by omega)]; omega
        have e1' : (m : Int) / 8 = (q : Int) := by omega
        have e2 : (m : Int).tmod 8 = (r : Int) := by rw [Int.tmod_eq_emod_of_nonneg (by omega)]; omega
        have e2' : (m : Int) % 8 = (r : Int) := by omega
        have e3 : 8 * (r : Int) = (z : Int) := by omega
        have w1 : IntKind.i64.wrap (q : Int) = (q : Int) := IntWalk.i64_in _ (by omega)
        have w2 : IntKind.i64.wrap (z : Int) = (z : Int) := IntWalk.i64_in _ (by omega)
        have z1 : (0 : Int) ≤ (q : Int) := by omega
        have z2 : (q : Int) < 25 := by omega
        have z3 : (0 : Int) ≤ (z : Int) := by omega
        have z4 : (z : Int) ≤ 64 := by omega
        have cl := B.lane (by omega) hq25
        have ca := B.sat
        have HB : Hid (byteAt u m = IntKind.u8.wrap (u q / 2 ^ z)) := Lib.hid (by unfold byteAt; rw [hq, hr, hz, wrap_u8])
        obtain ⟨x0, hx0, hx0a, hx0b⟩ : ∃ x0, u q = x0 ∧ 0 ≤ x0 ∧ x0 ≤ 18446744073709551615 := ⟨_, rfl, by have := hin q hq25; unfold in64 at this; omega, by have := hin q hq25; unfold in64 at this; omega⟩
        rw [hx0] at cl HB
        clear hx0 hq hr hz
        refine wp_region_marks_in (fun _ => oneMean 5 #[.int .u8 (IntKind.u8.wrap (x0 / 2 ^ z))]) 20 (by kernel_rfl) (by kernel_rfl) (fun k0 => ?_)
        simp only [List.take_succ_cons, List.take_zero, List.drop_succ_cons, List.drop_zero]
        repeat (first
          | (refine marks_ex rfl rfl (by kernel_rfl) ?_; apply Exists.intro; refine And.intro (fun w' hk => ?_) (And.intro ?_ ?_); (focus (have q0 := hk.cell cl; have q1 := hk.cell ca; clear hk; go_simp; exact rfl)); (focus (exact rfl)); simp only [Act.put, List.setIfInBounds_toArray, List.set_cons_zero, List.set_cons_succ]))
        refine marks_lay 0 rfl rfl (by kernel_rfl) (fun w' hk => ?_) ?_
        · refine ⟨_, _, by go_simp, (Kept.refl w').alloc _, ⟨_, rfl, Blk.new _ _ _⟩⟩
        simp only [Act.put, List.setIfInBounds_toArray, List.set_cons_zero, List.set_cons_succ]
        refine marks_nil ?_
        intro a'' W5 hkW5 hra
        obtain ⟨mb, hmb, rfl⟩ := hra.mark1 57 0 (by kernel_rfl) rfl
        simp only [Act.put, List.setIfInBounds_toArray, List.set_cons_zero, List.set_cons_succ]
        clear hra
        obtain ⟨nb, rfl, Bn⟩ := hmb
        have k5 := k.later hkW5
        have B5 := B.kept hkW5
        have hown5 := ownsRow_kept hown hkW5
        have hg5 : g ≤ W5.heap.size := Nat.le_trans hgW hkW5.size
        clear ca cl hkW5 k B hown
        go_wp2_with (at_builtin; refine wpList_append_at 42 5 info5 Try.underlying42 rfl (by decide) hown5 nb 0 1 1 [.int .u8 (IntKind.u8.wrap (x0 / 2 ^ z))] rfl (by intro u hu; simp at hu; subst hu; rfl) (by intro j u hj; rw [Nat.zero_add]; exact Bn.cell j (by simpa using hj)) (by omega) (by decide) (by decide) hg5 (.tmp 38) (.tmp 57) rfl rfl rfl rfl ?_; intro v' w1 hown6 hgrow hne; have k6 := k5.grown hown5 hgrow (by omega); have B6 := grown_blk B5 hown5 hgrow (by omega); have hg6 : g ≤ w1.heap.size := Nat.le_trans hg5 hgrow.size; clear hown5 hgrow k5 B5 Bn hg5; have ca := B6.sat; have fa := B6.free; have w5 : IntKind.i64.wrap ((m : Int) + 1) = (m : Int) + 1 := IntWalk.i64_in _ (by omega))
        go_roundw
        case rel => exact ⟨i + 1, by omega, by go_num, k6.trans (Touch.set _ _ _ _), by rw [HV.out.1, HN.out.1, HN.out.2]; exact B6.setAt _, by rw [HV.out.2, HN.out.1, HN.out.2, HB.out]; exact ownsRow_touch hown6 (Touch.set _ _ _ _) hbg, by simpa [World.setCell] using hg6⟩
        case measure => simp [intOf]; omega
    · have yi : (many : Int) ≤ (i : Int) := by omega
      obtain rfl : i = many := by omega
      go_wp2_with fail
      go_ret
      exact ⟨_, rfl, k, B, ownsRow_base hown hwg⟩
set_option maxRecDepth 100000 in
set_option maxHeartbeats 4000000 in
theorem k_Read_gt (w : World) (b : Nat) (s : Nat → Int) (d : Int) (p : Nat) (hp : p ≤ 168) (hs : Hid (∀ i, i < 25 → in64 (s i))) (many : Nat) (hm : 65536 < many) (hm63 : (many : Int) ≤ 9223372036854775807) (hB : Sp w b s p d true) :
    Calls Try.prog 67 #[.pointer (some ⟨b, 0, none⟩), .int .i64 (many : Int)] w fun e w' => ∃ v, e = .returned v ∧ Touch b w w' ∧ Sp w' b (gives s p 65536).1 (gives s p 65536).2 d true ∧ w'.ownsRow w.heap.size 5 1 v 65536 (outsV s p 65536) := by
  have c0 := hB.sgive
  have z0 : (0 : Int) ≤ (many : Int) := by omega
  have y1 : (65536 : Int) < (many : Int) := by omega
  obtain ⟨cs, hmk0⟩ := make42 65536 (by omega)
  go_enter Try.func67, Try.ntmps67
  obtain ⟨hmk1, hown0⟩ := hmk0 w
  have hmk : (Instr.makeSlice 42 (.int .i64 0) (.int .i64 65536)).run Try.prog w = .ok (.slice (some ⟨w.heap.size, 0, none⟩) 0 65536) (w.alloc (.cells cs 5)) := hmk1
  clear hmk1 hmk0
  obtain ⟨g, hg⟩ : ∃ g, w.heap.size = g := ⟨_, rfl⟩
  rw [hg] at hmk hown0
  have hbg : b < g := hg ▸ hB.lt
  have hwg : w.heap.size ≤ g := by omega
  go_upto_region 6 with (fail)
  refine abs_world (fun W => Touch b w W ∧ Sp W b s p d true ∧ W.ownsRow g 5 1 (.slice (some ⟨g, 0, none⟩) 0 65536) 0 [] ∧ g ≤ W.heap.size) ⟨Touch.alloc _ _ _, hB.alloc _, hown0, by simp; omega⟩ ?_
  rintro W1 ⟨k, B, hown, hgW⟩
  clear c0 hB hown0 hmk
  go_wp2_with fail
  go_loopw [5, 24] (fun v t' wr => ∃ i : Nat, i ≤ 65536 ∧ t' = .int .i64 i ∧ Touch b w wr ∧ Sp wr b (gives s p i).1 (gives s p i).2 d true ∧ wr.ownsRow g 5 1 v i (outsV s p i) ∧ g ≤ wr.heap.size) (fun _ t' _ => 65536 - (intOf t').toNat)
  case atStart => exact ⟨0, Nat.zero_le _, rfl, k, B, hown, hgW⟩
  case round =>
    clear k B hown hgW
    obtain ⟨i, hi, rfl, k, B, hown, hgW⟩ := hrel
    have zi : (0 : Int) ≤ (i : Int) := by omega
    obtain ⟨sa, sn, sc, rfl⟩ := ownsRow_slice hown
    rcases Nat.lt_or_ge i 65536 with hlt | hge
    · have yi : (i : Int) < 65536 := by omega
      have hple := gives_le s (a := p) (by omega) i
      have hin0 := gives_in hs.out p i
      have HV : Hid (gives s p (i + 1) = (norm (gives s p i).1 (gives s p i).2, normA (gives s p i).2 + 1) ∧ outsV s p (i + 1) = outsV s p i ++ [.int .u8 (byteAt (norm (gives s p i).1 (gives s p i).2) (normA (gives s p i).2))]) := Lib.hid ⟨rfl, by unfold outsV; rw [List.range_succ, List.map_append]; rfl⟩
      generalize (gives s p i).1 = u at *
      generalize (gives s p i).2 = m at *
      have ca := B.sat
      have fa := B.free
      by_cases hm168 : m = 168
      · subst hm168
        go_wp2_with fail
        refine (k_permute _ b 28 139 u _ (by omega) B).mono ?_
        rintro e W2 ⟨rfl, k1, B1⟩
        have k2 := k.trans k1
        have hown2 := ownsRow_touch hown k1 hbg
        have hgW2 : g ≤ W2.heap.size := Nat.le_trans hgW k1.size
        clear k k1 ca fa B hown hgW
        have ca := B1.sat
        have fa := B1.free
        go_upto_region 11 with (fail)
        obtain ⟨m0, hm0, hm0l⟩ : ∃ m0 : Nat, Hid (m0 = 0) ∧ m0 < 168 := ⟨0, Lib.hid rfl, by omega⟩
        refine abs_world (fun W => Touch b w W ∧ Sp W b (kperm 12 u) (m0 : Int) d true ∧ W.ownsRow g 5 1 (.slice sa sn sc) i (outsV s p i) ∧ g ≤ W.heap.size) ⟨k2.trans (Touch.set _ _ _ _), by rw [hm0.out]; exact B1.setAt 0, ownsRow_touch hown2 (Touch.set _ _ _ _) hbg, by simpa [World.setCell] using hgW2⟩ ?_
        clear ca fa k2 B1 hown2 hgW2
        rintro W4 ⟨k, B, hown, hgW⟩
        have hin : ∀ j, j < 25 → in64 (kperm 12 u j) := kperm_in hin0 12
        obtain ⟨q, hq, hq25⟩ : ∃ q, m0 / 8 = q ∧ q < 25 := ⟨_, rfl, by omega⟩
        obtain ⟨r, hr, hr8⟩ : ∃ r, m0 % 8 = r ∧ r < 8 := ⟨_, rfl, by omega⟩
        obtain ⟨z, hz, hz56⟩ : ∃ z, 8 * r = z ∧ z ≤ 56 := ⟨_, rfl, by omega⟩
        have e1 : (m0 : Int).tdiv 8 = (q : Int) := by rw [Int.tdiv_eq_ediv_of_nonneg (by omega)]; omega
        have e1' : (m0 : Int) / 8 = (q : Int) := by omega
        have e2 : (m0 : Int).tmod 8 = (r : Int) := by rw [Int.tmod_eq_emod_of_nonneg (by omega)]; omega
        have e2' : (m0 : Int) % 8 = (r : Int) := by omega
        have e3 : 8 * (r : Int) = (z : Int) := by omega
        have w1 : IntKind.i64.wrap (q : Int) = (q : Int) := IntWalk.i64_in _ (by omega)
        have w2 : IntKind.i64.wrap (z : Int) = (z : Int) := IntWalk.i64_in _ (by omega)
        have z1 : (0 : Int) ≤ (q : Int) := by omega
        have z2 : (q : Int) < 25 := by omega
        have z3 : (0 : Int) ≤ (z : Int) := by omega
        have z4 : (z : Int) ≤ 64 := by omega
        have cl := B.lane (by omega) hq25
        have ca := B.sat
        have HB : Hid (byteAt (kperm 12 u) m0 = IntKind.u8.wrap ((kperm 12 u) q / 2 ^ z)) := Lib.hid (by unfold byteAt; rw [hq, hr, hz, wrap_u8])
        obtain ⟨x0, hx0, hx0a, hx0b⟩ : ∃ x0, (kperm 12 u) q = x0 ∧ 0 ≤ x0 ∧ x0 ≤ 18446744073709551615 := ⟨_, rfl, by have := hin q hq25; unfold in64 at this; omega, by have := hin q hq25; unfold in64 at this; omega⟩
        rw [hx0] at cl HB
        clear hx0 hq hr hz
        refine wp_region_marks_in (fun _ => oneMean 5 #[.int .u8 (IntKind.u8.wrap (x0 / 2 ^ z))]) 20 (by kernel_rfl) (by kernel_rfl) (fun k0 => ?_)
        simp only [List.take_succ_cons, List.take_zero, List.drop_succ_cons, List.drop_zero]
        repeat (first
          | (refine marks_ex rfl rfl (by kernel_rfl) ?_; apply Exists.intro; refine And.intro (fun w' hk => ?_) (And.intro ?_ ?_); (focus (have q0 := hk.cell cl; have q1 := hk.cell ca; clear hk; go_simp; exact rfl)); (focus (exact rfl)); simp only [Act.put, List.setIfInBounds_toArray, List.set_cons_zero, List.set_cons_succ]))
        refine marks_lay 0 rfl rfl (by kernel_rfl) (fun w' hk => ?_) ?_
        · refine ⟨_, _, by go_simp, (Kept.refl w').alloc _, ⟨_, rfl, Blk.new _ _ _⟩⟩
        simp only [Act.put, List.setIfInBounds_toArray, List.set_cons_zero, List.set_cons_succ]
        refine marks_nil ?_
        intro a'' W5 hkW5 hra
        obtain ⟨mb, hmb, rfl⟩ := hra.mark1 57 0 (by kernel_rfl) rfl
        simp only [Act.put, List.setIfInBounds_toArray, List.set_cons_zero, List.set_cons_succ]
        clear hra
        obtain ⟨nb, rfl, Bn⟩ := hmb
        have k5 := k.later hkW5
        have B5 := B.kept hkW5
        have hown5 := ownsRow_kept hown hkW5
        have hg5 : g ≤ W5.heap.size := Nat.le_trans hgW hkW5.size
        clear ca cl hkW5 k B hown
        go_wp2_with (at_builtin; refine wpList_append_at 42 5 info5 Try.underlying42 rfl (by decide) hown5 nb 0 1 1 [.int .u8 (IntKind.u8.wrap (x0 / 2 ^ z))] rfl (by intro u hu; simp at hu; subst hu; rfl) (by intro j u hj; rw [Nat.zero_add]; exact Bn.cell j (by simpa using hj)) (by omega) (by decide) (by decide) hg5 (.tmp 38) (.tmp 57) rfl rfl rfl rfl ?_; intro v' w1 hown6 hgrow hne; have k6 := k5.grown hown5 hgrow (by omega); have B6 := grown_blk B5 hown5 hgrow (by omega); have hg6 : g ≤ w1.heap.size := Nat.le_trans hg5 hgrow.size; clear hown5 hgrow k5 B5 Bn hg5; have ca := B6.sat; have fa := B6.free; have w5 : IntKind.i64.wrap ((m0 : Int) + 1) = (m0 : Int) + 1 := IntWalk.i64_in _ (by omega))
        go_roundw
        case rel => exact ⟨i + 1, by omega, by go_num, k6.trans (Touch.set _ _ _ _), by rw [HV.out.1]; show Sp _ b (kperm 12 u) ((0 + 1 : Nat) : Int) d true; rw [show ((0 + 1 : Nat) : Int) = (m0 : Int) + 1 by rw [hm0.out]; rfl]; exact B6.setAt ((m0 : Int) + 1), by rw [HV.out.2]; show World.ownsRow _ _ _ _ _ _ (outsV s p i ++ [.int .u8 (byteAt (kperm 12 u) 0)]); have h9 := HB.out; rw [hm0.out] at h9; rw [h9]; exact ownsRow_touch hown6 (Touch.set _ _ _ _) hbg, by simpa [World.setCell] using hg6⟩
        case measure => simp [intOf]; omega
      · have hm2 : (m : Int) ≠ 168 := by omega
        have hm3 : ((m : Int) == 168) = false := by simp [hm2]
        have HN : Hid (norm u m = u ∧ normA m = m) := Lib.hid ⟨if_neg hm168, if_neg hm168⟩
        have hin := hin0
        go_upto_region 11 with (fail)
        clear ca fa
        obtain ⟨q, hq, hq25⟩ : ∃ q, m / 8 = q ∧ q < 25 := ⟨_, rfl, by omega⟩
        obtain ⟨r, hr, hr8⟩ : ∃ r, m % 8 = r ∧ r < 8 := ⟨_, rfl, by omega⟩
        obtain ⟨z, hz, hz56⟩ : ∃ z, 8 * r = z ∧ z ≤ 56 := ⟨_, rfl, by omega⟩
        have e1 : (m : Int).tdiv 8 = (q : Int) := by rw [Int.tdiv_eq_ediv_of_nonneg (by omega)]; omega
        have e1' : (m : Int) / 8 = (q : Int) := by omega
        have e2 : (m : Int).tmod 8 = (r : Int) := by rw [Int.tmod_eq_emod_of_nonneg (by omega)]; omega
        have e2' : (m : Int) % 8 = (r : Int) := by omega
        have e3 : 8 * (r : Int) = (z : Int) := by omega
        have w1 : IntKind.i64.wrap (q : Int) = (q : Int) := IntWalk.i64_in _ (by omega)
        have w2 : IntKind.i64.wrap (z : Int) = (z : Int) := IntWalk.i64_in _ (by omega)
        have z1 : (0 : Int) ≤ (q : Int) := by omega
        have z2 : (q : Int) < 25 := by omega
        have z3 : (0 : Int) ≤ (z : Int) := by omega
        have z4 : (z : Int) ≤ 64 := by omega
        have cl := B.lane (by omega) hq25
        have ca := B.sat
        have HB : Hid (byteAt u m = IntKind.u8.wrap (u q / 2 ^ z)) := Lib.hid (by unfold byteAt; rw [hq, hr, hz, wrap_u8])
        obtain ⟨x0, hx0, hx0a, hx0b⟩ : ∃ x0, u q = x0 ∧ 0 ≤ x0 ∧ x0 ≤ 18446744073709551615 := ⟨_, rfl, by have := hin q hq25; unfold in64 at this; omega, by have := hin q hq25; unfold in64 at this; omega⟩
        rw [hx0] at cl HB
        clear hx0 hq hr hz
        refine wp_region_marks_in (fun _ => oneMean 5 #[.int .u8 (IntKind.u8.wrap (x0 / 2 ^ z))]) 20 (by kernel_rfl) (by kernel_rfl) (fun k0 => ?_)
        simp only [List.take_succ_cons, List.take_zero, List.drop_succ_cons, List.drop_zero]
        repeat (first
          | (refine marks_ex rfl rfl (by kernel_rfl) ?_; apply Exists.intro; refine And.intro (fun w' hk => ?_) (And.intro ?_ ?_); (focus (have q0 := hk.cell cl; have q1 := hk.cell ca; clear hk; go_simp; exact rfl)); (focus (exact rfl)); simp only [Act.put, List.setIfInBounds_toArray, List.set_cons_zero, List.set_cons_succ]))
        refine marks_lay 0 rfl rfl (by kernel_rfl) (fun w' hk => ?_) ?_
        · refine ⟨_, _, by go_simp, (Kept.refl w').alloc _, ⟨_, rfl, Blk.new _ _ _⟩⟩
        simp only [Act.put, List.setIfInBounds_toArray, List.set_cons_zero, List.set_cons_succ]
        refine marks_nil ?_
        intro a'' W5 hkW5 hra
        obtain ⟨mb, hmb, rfl⟩ := hra.mark1 57 0 (by kernel_rfl) rfl
        simp only [Act.put, List.setIfInBounds_toArray, List.set_cons_zero, List.set_cons_succ]
        clear hra
        obtain ⟨nb, rfl, Bn⟩ := hmb
        have k5 := k.later hkW5
        have B5 := B.kept hkW5
        have hown5 := ownsRow_kept hown hkW5
        have hg5 : g ≤ W5.heap.size := Nat.le_trans hgW hkW5.size
        clear ca cl hkW5 k B hown
        go_wp2_with (at_builtin; refine wpList_append_at 42 5 info5 Try.underlying42 rfl (by decide) hown5 nb 0 1 1 [.int .u8 (IntKind.u8.wrap (x0 / 2 ^ z))] rfl (by intro u hu; simp at hu; subst hu; rfl) (by intro j u hj; rw [Nat.zero_add]; exact Bn.cell j (by simpa using hj)) (by omega) (by decide) (by decide) hg5 (.tmp 38) (.tmp 57) rfl rfl rfl rfl ?_; intro v' w1 hown6 hgrow hne; have k6 := k5.grown hown5 hgrow (by omega); have B6 := grown_blk B5 hown5 hgrow (by omega); have hg6 : g ≤ w1.heap.size := Nat.le_trans hg5 hgrow.size; clear hown5 hgrow k5 B5 Bn hg5; have ca := B6.sat; have fa := B6.free; have w5 : IntKind.i64.wrap ((m : Int) + 1) = (m : Int) + 1 := IntWalk.i64_in _ (by omega))
        go_roundw
        case rel => exact ⟨i + 1, by omega, by go_num, k6.trans (Touch.set _ _ _ _), by rw [HV.out.1, HN.out.1, HN.out.2]; exact B6.setAt _, by rw [HV.out.2, HN.out.1, HN.out.2, HB.out]; exact ownsRow_touch hown6 (Touch.set _ _ _ _) hbg, by simpa [World.setCell] using hg6⟩
        case measure => simp [intOf]; omega
    · have yi : 65536 ≤ (i : Int) := by omega
      obtain rfl : i = 65536 := by omega
      go_wp2_with fail
      go_ret
      exact ⟨_, rfl, k, B, ownsRow_base hown hwg⟩
set_option maxRecDepth 100000 in
set_option maxHeartbeats 4000000 in
theorem k_End_le (w : World) (b : Nat) (s : Nat → Int) (d : Int) (p : Nat) (hp : p ≤ 168) (many : Nat) (hm : many ≤ 65536) (d0 : 0 ≤ d) (d1 : d ≤ 255) (hB : Sp w b s p d false) :
    Calls Try.prog 67 #[.pointer (some ⟨b, 0, none⟩), .int .i64 (many : Int)] w fun e w' => ∃ v, e = .returned v ∧ Touch b w w' ∧ Sp w' b (gives (kend s p d) 0 many).1 (gives (kend s p d) 0 many).2 d true ∧ w'.ownsRow w.heap.size 5 1 v many (outsV (kend s p d) 0 many) := by
  have c0 := hB.sgive
  have z0 : (0 : Int) ≤ (many : Int) := by omega
  have y1 : (many : Int) ≤ 65536 := by omega
  obtain ⟨cs, hmk0⟩ := make42 many (by omega)
  go_enter Try.func67, Try.ntmps67
  go_wp2_with fail
  refine (k_end _ b s p hp d d0 d1 hB).mono ?_
  rintro e W0 ⟨rfl, k0, B0⟩
  clear c0
  have hbase0 := k0.size
  obtain ⟨hmk1, hown0⟩ := hmk0 W0
  have hmk : (Instr.makeSlice 42 (.int .i64 0) (.int .i64 (many : Int))).run Try.prog W0 = .ok (.slice (some ⟨W0.heap.size, 0, none⟩) 0 many) (W0.alloc (.cells cs 5)) := hmk1
  clear hmk1 hmk0
  obtain ⟨g, hg⟩ : ∃ g, W0.heap.size = g := ⟨_, rfl⟩
  rw [hg] at hmk hown0
  have hbg : b < g := hg ▸ B0.lt
  have hwg : w.heap.size ≤ g := by omega
  go_upto_region 6 with (fail)
  refine abs_world (fun W => Touch b w W ∧ Sp W b (kend s p d) 0 d true ∧ W.ownsRow g 5 1 (.slice (some ⟨g, 0, none⟩) 0 many) 0 [] ∧ g ≤ W.heap.size) ⟨k0.trans (Touch.alloc _ _ _), B0.alloc _, hown0, by simp; omega⟩ ?_
  rintro W1 ⟨k, B, hown, hgW⟩
  clear hB B0 k0 hown0 hmk
  go_wp2_with fail
  go_loopw [5, 24] (fun v t' wr => ∃ i : Nat, i ≤ many ∧ t' = .int .i64 i ∧ Touch b w wr ∧ Sp wr b (gives (kend s p d) 0 i).1 (gives (kend s p d) 0 i).2 d true ∧ wr.ownsRow g 5 1 v i (outsV (kend s p d) 0 i) ∧ g ≤ wr.heap.size) (fun _ t' _ => many - (intOf t').toNat)
  case atStart => exact ⟨0, Nat.zero_le _, rfl, k, B, hown, hgW⟩
  case round =>
    clear k B hown hgW
    obtain ⟨i, hi, rfl, k, B, hown, hgW⟩ := hrel
    have zi : (0 : Int) ≤ (i : Int) := by omega
    obtain ⟨sa, sn, sc, rfl⟩ := ownsRow_slice hown
    rcases Nat.lt_or_ge i many with hlt | hge
    · have yi : (i : Int) < (many : Int) := by omega
      have hple := gives_le (kend s p d) (a := 0) (by omega) i
      have hin0 := gives_in (kend_in s p d) 0 i
      have HV : Hid (gives (kend s p d) 0 (i + 1) = (norm (gives (kend s p d) 0 i).1 (gives (kend s p d) 0 i).2, normA (gives (kend s p d) 0 i).2 + 1) ∧ outsV (kend s p d) 0 (i + 1) = outsV (kend s p d) 0 i ++ [.int .u8 (byteAt (norm (gives (kend s p d) 0 i).1 (gives (kend s p d) 0 i).2) (normA (gives (kend s p d) 0 i).2))]) := Lib.hid ⟨rfl, by unfold outsV; rw [List.range_succ, List.map_append]; rfl⟩
      generalize (gives (kend s p d) 0 i).1 = u at *
      generalize (gives (kend s p d) 0 i).2 = m at *
      have ca := B.sat
      have fa := B.free
      by_cases hm168 : m = 168
      · subst hm168
        go_wp2_with fail
        refine (k_permute _ b 28 139 u _ (by omega) B).mono ?_
        rintro e W2 ⟨rfl, k1, B1⟩
        have k2 := k.trans k1
        have hown2 := ownsRow_touch hown k1 hbg
        have hgW2 : g ≤ W2.heap.size := Nat.le_trans hgW k1.size
        clear k k1 ca fa B hown hgW
        have ca := B1.sat
        have fa := B1.free
        go_upto_region 11 with (fail)
        obtain ⟨m0, hm0, hm0l⟩ : ∃ m0 : Nat, Hid (m0 = 0) ∧ m0 < 168 := ⟨0, Lib.hid rfl, by omega⟩
        refine abs_world (fun W => Touch b w W ∧ Sp W b (kperm 12 u) (m0 : Int) d true ∧ W.ownsRow g 5 1 (.slice sa sn sc) i (outsV (kend s p d) 0 i) ∧ g ≤ W.heap.size) ⟨k2.trans (Touch.set _ _ _ _), by rw [hm0.out]; exact B1.setAt 0, ownsRow_touch hown2 (Touch.set _ _ _ _) hbg, by simpa [World.setCell] using hgW2⟩ ?_
        clear ca fa k2 B1 hown2 hgW2
        rintro W4 ⟨k, B, hown, hgW⟩
        have hin : ∀ j, j < 25 → in64 (kperm 12 u j) := kperm_in hin0 12
        obtain ⟨q, hq, hq25⟩ : ∃ q, m0 / 8 = q ∧ q < 25 := ⟨_, rfl, by omega⟩
        obtain ⟨r, hr, hr8⟩ : ∃ r, m0 % 8 = r ∧ r < 8 := ⟨_, rfl, by omega⟩
        obtain ⟨z, hz, hz56⟩ : ∃ z, 8 * r = z ∧ z ≤ 56 := ⟨_, rfl, by omega⟩
        have e1 : (m0 : Int).tdiv 8 = (q : Int) := by rw [Int.tdiv_eq_ediv_of_nonneg (by omega)]; omega
        have e1' : (m0 : Int) / 8 = (q : Int) := by omega
        have e2 : (m0 : Int).tmod 8 = (r : Int) := by rw [Int.tmod_eq_emod_of_nonneg (by omega)]; omega
        have e2' : (m0 : Int) % 8 = (r : Int) := by omega
        have e3 : 8 * (r : Int) = (z : Int) := by omega
        have w1 : IntKind.i64.wrap (q : Int) = (q : Int) := IntWalk.i64_in _ (by omega)
        have w2 : IntKind.i64.wrap (z : Int) = (z : Int) := IntWalk.i64_in _ (by omega)
        have z1 : (0 : Int) ≤ (q : Int) := by omega
        have z2 : (q : Int) < 25 := by omega
        have z3 : (0 : Int) ≤ (z : Int) := by omega
        have z4 : (z : Int) ≤ 64 := by omega
        have cl := B.lane (by omega) hq25
        have ca := B.sat
        have HB : Hid (byteAt (kperm 12 u) m0 = IntKind.u8.wrap ((kperm 12 u) q / 2 ^ z)) := Lib.hid (by unfold byteAt; rw [hq, hr, hz, wrap_u8])
        obtain ⟨x0, hx0, hx0a, hx0b⟩ : ∃ x0, (kperm 12 u) q = x0 ∧ 0 ≤ x0 ∧ x0 ≤ 18446744073709551615 := ⟨_, rfl, by have := hin q hq25; unfold in64 at this; omega, by have := hin q hq25; unfold in64 at this; omega⟩
        rw [hx0] at cl HB
        clear hx0 hq hr hz
        refine wp_region_marks_in (fun _ => oneMean 5 #[.int .u8 (IntKind.u8.wrap (x0 / 2 ^ z))]) 20 (by kernel_rfl) (by kernel_rfl) (fun k0 => ?_)
        simp only [List.take_succ_cons, List.take_zero, List.drop_succ_cons, List.drop_zero]
        repeat (first
          | (refine marks_ex rfl rfl (by kernel_rfl) ?_; apply Exists.intro; refine And.intro (fun w' hk => ?_) (And.intro ?_ ?_); (focus (have q0 := hk.cell cl; have q1 := hk.cell ca; clear hk; go_simp; exact rfl)); (focus (exact rfl)); simp only [Act.put, List.setIfInBounds_toArray, List.set_cons_zero, List.set_cons_succ]))
        refine marks_lay 0 rfl rfl (by kernel_rfl) (fun w' hk => ?_) ?_
        · refine ⟨_, _, by go_simp, (Kept.refl w').alloc _, ⟨_, rfl, Blk.new _ _ _⟩⟩
        simp only [Act.put, List.setIfInBounds_toArray, List.set_cons_zero, List.set_cons_succ]
        refine marks_nil ?_
        intro a'' W5 hkW5 hra
        obtain ⟨mb, hmb, rfl⟩ := hra.mark1 57 0 (by kernel_rfl) rfl
        simp only [Act.put, List.setIfInBounds_toArray, List.set_cons_zero, List.set_cons_succ]
        clear hra
        obtain ⟨nb, rfl, Bn⟩ := hmb
        have k5 := k.later hkW5
        have B5 := B.kept hkW5
        have hown5 := ownsRow_kept hown hkW5
        have hg5 : g ≤ W5.heap.size := Nat.le_trans hgW hkW5.size
        clear ca cl hkW5 k B hown
        go_wp2_with (at_builtin; refine wpList_append_at 42 5 info5 Try.underlying42 rfl (by decide) hown5 nb 0 1 1 [.int .u8 (IntKind.u8.wrap (x0 / 2 ^ z))] rfl (by intro u hu; simp at hu; subst hu; rfl) (by intro j u hj; rw [Nat.zero_add]; exact Bn.cell j (by simpa using hj)) (by omega) (by decide) (by decide) hg5 (.tmp 38) (.tmp 57) rfl rfl rfl rfl ?_; intro v' w1 hown6 hgrow hne; have k6 := k5.grown hown5 hgrow (by omega); have B6 := grown_blk B5 hown5 hgrow (by omega); have hg6 : g ≤ w1.heap.size := Nat.le_trans hg5 hgrow.size; clear hown5 hgrow k5 B5 Bn hg5; have ca := B6.sat; have fa := B6.free; have w5 : IntKind.i64.wrap ((m0 : Int) + 1) = (m0 : Int) + 1 := IntWalk.i64_in _ (by omega))
        go_roundw
        case rel => exact ⟨i + 1, by omega, by go_num, k6.trans (Touch.set _ _ _ _), by rw [HV.out.1]; show Sp _ b (kperm 12 u) ((0 + 1 : Nat) : Int) d true; rw [show ((0 + 1 : Nat) : Int) = (m0 : Int) + 1 by rw [hm0.out]; rfl]; exact B6.setAt ((m0 : Int) + 1), by rw [HV.out.2]; show World.ownsRow _ _ _ _ _ _ (outsV (kend s p d) 0 i ++ [.int .u8 (byteAt (kperm 12 u) 0)]); have h9 := HB.out; rw [hm0.out] at h9; rw [h9]; exact ownsRow_touch hown6 (Touch.set _ _ _ _) hbg, by simpa [World.setCell] using hg6⟩
        case measure => simp [intOf]; omega
      · have hm2 : (m : Int) ≠ 168 := by omega
        have hm3 : ((m : Int) == 168) = false := by simp [hm2]
        have HN : Hid (norm u m = u ∧ normA m = m) := Lib.hid ⟨if_neg hm168, if_neg hm168⟩
        have hin := hin0
        go_upto_region 11 with (fail)
        clear ca fa
        obtain ⟨q, hq, hq25⟩ : ∃ q, m / 8 = q ∧ q < 25 := ⟨_, rfl, by omega⟩
        obtain ⟨r, hr, hr8⟩ : ∃ r, m % 8 = r ∧ r < 8 := ⟨_, rfl, by omega⟩
        obtain ⟨z, hz, hz56⟩ : ∃ z, 8 * r = z ∧ z ≤ 56 := ⟨_, rfl, by omega⟩
        have e1 : (m : Int).tdiv 8 = (q : Int) := by rw [Int.tdiv_eq_ediv_of_nonneg (by omega)]; omega
        have e1' : (m : Int) / 8 = (q : Int) := by omega
        have e2 : (m : Int).tmod 8 = (r : Int) := by rw [Int.tmod_eq_emod_of_nonneg (by omega)]; omega
        have e2' : (m : Int) % 8 = (r : Int) := by omega
        have e3 : 8 * (r : Int) = (z : Int) := by omega
        have w1 : IntKind.i64.wrap (q : Int) = (q : Int) := IntWalk.i64_in _ (by omega)
        have w2 : IntKind.i64.wrap (z : Int) = (z : Int) := IntWalk.i64_in _ (by omega)
        have z1 : (0 : Int) ≤ (q : Int) := by omega
        have z2 : (q : Int) < 25 := by omega
        have z3 : (0 : Int) ≤ (z : Int) := by omega
        have z4 : (z : Int) ≤ 64 := by omega
        have cl := B.lane (by omega) hq25
        have ca := B.sat
        have HB : Hid (byteAt u m = IntKind.u8.wrap (u q / 2 ^ z)) := Lib.hid (by unfold byteAt; rw [hq, hr, hz, wrap_u8])
        obtain ⟨x0, hx0, hx0a, hx0b⟩ : ∃ x0, u q = x0 ∧ 0 ≤ x0 ∧ x0 ≤ 18446744073709551615 := ⟨_, rfl, by have := hin q hq25; unfold in64 at this; omega, by have := hin q hq25; unfold in64 at this; omega⟩
        rw [hx0] at cl HB
        clear hx0 hq hr hz
        refine wp_region_marks_in (fun _ => oneMean 5 #[.int .u8 (IntKind.u8.wrap (x0 / 2 ^ z))]) 20 (by kernel_rfl) (by kernel_rfl) (fun k0 => ?_)
        simp only [List.take_succ_cons, List.take_zero, List.drop_succ_cons, List.drop_zero]
        repeat (first
          | (refine marks_ex rfl rfl (by kernel_rfl) ?_; apply Exists.intro; refine And.intro (fun w' hk => ?_) (And.intro ?_ ?_); (focus (have q0 := hk.cell cl; have q1 := hk.cell ca; clear hk; go_simp; exact rfl)); (focus (exact rfl)); simp only [Act.put, List.setIfInBounds_toArray, List.set_cons_zero, List.set_cons_succ]))
        refine marks_lay 0 rfl rfl (by kernel_rfl) (fun w' hk => ?_) ?_
        · refine ⟨_, _, by go_simp, (Kept.refl w').alloc _, ⟨_, rfl, Blk.new _ _ _⟩⟩
        simp only [Act.put, List.setIfInBounds_toArray, List.set_cons_zero, List.set_cons_succ]
        refine marks_nil ?_
        intro a'' W5 hkW5 hra
        obtain ⟨mb, hmb, rfl⟩ := hra.mark1 57 0 (by kernel_rfl) rfl
        simp only [Act.put, List.setIfInBounds_toArray, List.set_cons_zero, List.set_cons_succ]
        clear hra
        obtain ⟨nb, rfl, Bn⟩ := hmb
        have k5 := k.later hkW5
        have B5 := B.kept hkW5
        have hown5 := ownsRow_kept hown hkW5
        have hg5 : g ≤ W5.heap.size := Nat.le_trans hgW hkW5.size
        clear ca cl hkW5 k B hown
        go_wp2_with (at_builtin; refine wpList_append_at 42 5 info5 Try.underlying42 rfl (by decide) hown5 nb 0 1 1 [.int .u8 (IntKind.u8.wrap (x0 / 2 ^ z))] rfl (by intro u hu; simp at hu; subst hu; rfl) (by intro j u hj; rw [Nat.zero_add]; exact Bn.cell j (by simpa using hj)) (by omega) (by decide) (by decide) hg5 (.tmp 38) (.tmp 57) rfl rfl rfl rfl ?_; intro v' w1 hown6 hgrow hne; have k6 := k5.grown hown5 hgrow (by omega); have B6 := grown_blk B5 hown5 hgrow (by omega); have hg6 : g ≤ w1.heap.size := Nat.le_trans hg5 hgrow.size; clear hown5 hgrow k5 B5 Bn hg5; have ca := B6.sat; have fa := B6.free; have w5 : IntKind.i64.wrap ((m : Int) + 1) = (m : Int) + 1 := IntWalk.i64_in _ (by omega))
        go_roundw
        case rel => exact ⟨i + 1, by omega, by go_num, k6.trans (Touch.set _ _ _ _), by rw [HV.out.1, HN.out.1, HN.out.2]; exact B6.setAt _, by rw [HV.out.2, HN.out.1, HN.out.2, HB.out]; exact ownsRow_touch hown6 (Touch.set _ _ _ _) hbg, by simpa [World.setCell] using hg6⟩
        case measure => simp [intOf]; omega
    · have yi : (many : Int) ≤ (i : Int) := by omega
      obtain rfl : i = many := by omega
      go_wp2_with fail
      go_ret
      exact ⟨_, rfl, k, B, ownsRow_base hown hwg⟩
set_option maxRecDepth 100000 in
set_option maxHeartbeats 4000000 in
theorem k_End_gt (w : World) (b : Nat) (s : Nat → Int) (d : Int) (p : Nat) (hp : p ≤ 168) (many : Nat) (hm : 65536 < many) (hm63 : (many : Int) ≤ 9223372036854775807) (d0 : 0 ≤ d) (d1 : d ≤ 255) (hB : Sp w b s p d false) :
    Calls Try.prog 67 #[.pointer (some ⟨b, 0, none⟩), .int .i64 (many : Int)] w fun e w' => ∃ v, e = .returned v ∧ Touch b w w' ∧ Sp w' b (gives (kend s p d) 0 65536).1 (gives (kend s p d) 0 65536).2 d true ∧ w'.ownsRow w.heap.size 5 1 v 65536 (outsV (kend s p d) 0 65536) := by
  have c0 := hB.sgive
  have z0 : (0 : Int) ≤ (many : Int) := by omega
  have y1 : (65536 : Int) < (many : Int) := by omega
  obtain ⟨cs, hmk0⟩ := make42 65536 (by omega)
  go_enter Try.func67, Try.ntmps67
  go_wp2_with fail
  refine (k_end _ b s p hp d d0 d1 hB).mono ?_
  rintro e W0 ⟨rfl, k0, B0⟩
  clear c0
  have hbase0 := k0.size
  obtain ⟨hmk1, hown0⟩ := hmk0 W0
  have hmk : (Instr.makeSlice 42 (.int .i64 0) (.int .i64 65536)).run Try.prog W0 = .ok (.slice (some ⟨W0.heap.size, 0, none⟩) 0 65536) (W0.alloc (.cells cs 5)) := hmk1
  clear hmk1 hmk0
  obtain ⟨g, hg⟩ : ∃ g, W0.heap.size = g := ⟨_, rfl⟩
  rw [hg] at hmk hown0
  have hbg : b < g := hg ▸ B0.lt
  have hwg : w.heap.size ≤ g := by omega
  go_upto_region 6 with (fail)
  refine abs_world (fun W => Touch b w W ∧ Sp W b (kend s p d) 0 d true ∧ W.ownsRow g 5 1 (.slice (some ⟨g, 0, none⟩) 0 65536) 0 [] ∧ g ≤ W.heap.size) ⟨k0.trans (Touch.alloc _ _ _), B0.alloc _, hown0, by simp; omega⟩ ?_
  rintro W1 ⟨k, B, hown, hgW⟩
  clear hB B0 k0 hown0 hmk
  go_wp2_with fail
  go_loopw [5, 24] (fun v t' wr => ∃ i : Nat, i ≤ 65536 ∧ t' = .int .i64 i ∧ Touch b w wr ∧ Sp wr b (gives (kend s p d) 0 i).1 (gives (kend s p d) 0 i).2 d true ∧ wr.ownsRow g 5 1 v i (outsV (kend s p d) 0 i) ∧ g ≤ wr.heap.size) (fun _ t' _ => 65536 - (intOf t').toNat)
  case atStart => exact ⟨0, Nat.zero_le _, rfl, k, B, hown, hgW⟩
  case round =>
    clear k B hown hgW
    obtain ⟨i, hi, rfl, k, B, hown, hgW⟩ := hrel
    have zi : (0 : Int) ≤ (i : Int) := by omega
    obtain ⟨sa, sn, sc, rfl⟩ := ownsRow_slice hown
    rcases Nat.lt_or_ge i 65536 with hlt | hge
    · have yi : (i : Int) < 65536 := by omega
      have hple := gives_le (kend s p d) (a := 0) (by omega) i
      have hin0 := gives_in (kend_in s p d) 0 i
      have HV : Hid (gives (kend s p d) 0 (i + 1) = (norm (gives (kend s p d) 0 i).1 (gives (kend s p d) 0 i).2, normA (gives (kend s p d) 0 i).2 + 1) ∧ outsV (kend s p d) 0 (i + 1) = outsV (kend s p d) 0 i ++ [.int .u8 (byteAt (norm (gives (kend s p d) 0 i).1 (gives (kend s p d) 0 i).2) (normA (gives (kend s p d) 0 i).2))]) := Lib.hid ⟨rfl, by unfold outsV; rw [List.range_succ, List.map_append]; rfl⟩
      generalize (gives (kend s p d) 0 i).1 = u at *
      generalize (gives (kend s p d) 0 i).2 = m at *
      have ca := B.sat
      have fa := B.free
      by_cases hm168 : m = 168
      · subst hm168
        go_wp2_with fail
        refine (k_permute _ b 28 139 u _ (by omega) B).mono ?_
        rintro e W2 ⟨rfl, k1, B1⟩
        have k2 := k.trans k1
        have hown2 := ownsRow_touch hown k1 hbg
        have hgW2 : g ≤ W2.heap.size := Nat.le_trans hgW k1.size
        clear k k1 ca fa B hown hgW
        have ca := B1.sat
        have fa := B1.free
        go_upto_region 11 with (fail)
        obtain ⟨m0, hm0, hm0l⟩ : ∃ m0 : Nat, Hid (m0 = 0) ∧ m0 < 168 := ⟨0, Lib.hid rfl, by omega⟩
        refine abs_world (fun W => Touch b w W ∧ Sp W b (kperm 12 u) (m0 : Int) d true ∧ W.ownsRow g 5 1 (.slice sa sn sc) i (outsV (kend s p d) 0 i) ∧ g ≤ W.heap.size) ⟨k2.trans (Touch.set _ _ _ _), by rw [hm0.out]; exact B1.setAt 0, ownsRow_touch hown2 (Touch.set _ _ _ _) hbg, by simpa [World.setCell] using hgW2⟩ ?_
        clear ca fa k2 B1 hown2 hgW2
        rintro W4 ⟨k, B, hown, hgW⟩
        have hin : ∀ j, j < 25 → in64 (kperm 12 u j) := kperm_in hin0 12
        obtain ⟨q, hq, hq25⟩ : ∃ q, m0 / 8 = q ∧ q < 25 := ⟨_, rfl, by omega⟩
        obtain ⟨r, hr, hr8⟩ : ∃ r, m0 % 8 = r ∧ r < 8 := ⟨_, rfl, by omega⟩
        obtain ⟨z, hz, hz56⟩ : ∃ z, 8 * r = z ∧ z ≤ 56 := ⟨_, rfl, by omega⟩
        have e1 : (m0 : Int).tdiv 8 = (q : Int) := by rw [Int.tdiv_eq_ediv_of_nonneg (by omega)]; omega
        have e1' : (m0 : Int) / 8 = (q : Int) := by omega
        have e2 : (m0 : Int).tmod 8 = (r : Int) := by rw [Int.tmod_eq_emod_of_nonneg (by omega)]; omega
        have e2' : (m0 : Int) % 8 = (r : Int) := by omega
        have e3 : 8 * (r : Int) = (z : Int) := by omega
        have w1 : IntKind.i64.wrap (q : Int) = (q : Int) := IntWalk.i64_in _ (by omega)
        have w2 : IntKind.i64.wrap (z : Int) = (z : Int) := IntWalk.i64_in _ (by omega)
        have z1 : (0 : Int) ≤ (q : Int) := by omega
        have z2 : (q : Int) < 25 := by omega
        have z3 : (0 : Int) ≤ (z : Int) := by omega
        have z4 : (z : Int) ≤ 64 := by omega
        have cl := B.lane (by omega) hq25
        have ca := B.sat
        have HB : Hid (byteAt (kperm 12 u) m0 = IntKind.u8.wrap ((kperm 12 u) q / 2 ^ z)) := Lib.hid (by unfold byteAt; rw [hq, hr, hz, wrap_u8])
        obtain ⟨x0, hx0, hx0a, hx0b⟩ : ∃ x0, (kperm 12 u) q = x0 ∧ 0 ≤ x0 ∧ x0 ≤ 18446744073709551615 := ⟨_, rfl, by have := hin q hq25; unfold in64 at this; omega, by have := hin q hq25; unfold in64 at this; omega⟩
        rw [hx0] at cl HB
        clear hx0 hq hr hz
        refine wp_region_marks_in (fun _ => oneMean 5 #[.int .u8 (IntKind.u8.wrap (x0 / 2 ^ z))]) 20 (by kernel_rfl) (by kernel_rfl) (fun k0 => ?_)
        simp only [List.take_succ_cons, List.take_zero, List.drop_succ_cons, List.drop_zero]
        repeat (first
          | (refine marks_ex rfl rfl (by kernel_rfl) ?_; apply Exists.intro; refine And.intro (fun w' hk => ?_) (And.intro ?_ ?_); (focus (have q0 := hk.cell cl; have q1 := hk.cell ca; clear hk; go_simp; exact rfl)); (focus (exact rfl)); simp only [Act.put, List.setIfInBounds_toArray, List.set_cons_zero, List.set_cons_succ]))
        refine marks_lay 0 rfl rfl (by kernel_rfl) (fun w' hk => ?_) ?_
        · refine ⟨_, _, by go_simp, (Kept.refl w').alloc _, ⟨_, rfl, Blk.new _ _ _⟩⟩
        simp only [Act.put, List.setIfInBounds_toArray, List.set_cons_zero, List.set_cons_succ]
        refine marks_nil ?_
        intro a'' W5 hkW5 hra
        obtain ⟨mb, hmb, rfl⟩ := hra.mark1 57 0 (by kernel_rfl) rfl
        simp only [Act.put, List.setIfInBounds_toArray, List.set_cons_zero, List.set_cons_succ]
        clear hra
        obtain ⟨nb, rfl, Bn⟩ := hmb
        have k5 := k.later hkW5
        have B5 := B.kept hkW5
        have hown5 := ownsRow_kept hown hkW5
        have hg5 : g ≤ W5.heap.size := Nat.le_trans hgW hkW5.size
        clear ca cl hkW5 k B hown
        go_wp2_with (at_builtin; refine wpList_append_at 42 5 info5 Try.underlying42 rfl (by decide) hown5 nb 0 1 1 [.int .u8 (IntKind.u8.wrap (x0 / 2 ^ z))] rfl (by intro u hu; simp at hu; subst hu; rfl) (by intro j u hj; rw [Nat.zero_add]; exact Bn.cell j (by simpa using hj)) (by omega) (by decide) (by decide) hg5 (.tmp 38) (.tmp 57) rfl rfl rfl rfl ?_; intro v' w1 hown6 hgrow hne; have k6 := k5.grown hown5 hgrow (by omega); have B6 := grown_blk B5 hown5 hgrow (by omega); have hg6 : g ≤ w1.heap.size := Nat.le_trans hg5 hgrow.size; clear hown5 hgrow k5 B5 Bn hg5; have ca := B6.sat; have fa := B6.free; have w5 : IntKind.i64.wrap ((m0 : Int) + 1) = (m0 : Int) + 1 := IntWalk.i64_in _ (by omega))
        go_roundw
        case rel => exact ⟨i + 1, by omega, by go_num, k6.trans (Touch.set _ _ _ _), by rw [HV.out.1]; show Sp _ b (kperm 12 u) ((0 + 1 : Nat) : Int) d true; rw [show ((0 + 1 : Nat) : Int) = (m0 : Int) + 1 by rw [hm0.out]; rfl]; exact B6.setAt ((m0 : Int) + 1), by rw [HV.out.2]; show World.ownsRow _ _ _ _ _ _ (outsV (kend s p d) 0 i ++ [.int .u8 (byteAt (kperm 12 u) 0)]); have h9 := HB.out; rw [hm0.out] at h9; rw [h9]; exact ownsRow_touch hown6 (Touch.set _ _ _ _) hbg, by simpa [World.setCell] using hg6⟩
        case measure => simp [intOf]; omega
      · have hm2 : (m : Int) ≠ 168 := by omega
        have hm3 : ((m : Int) == 168) = false := by simp [hm2]
        have HN : Hid (norm u m = u ∧ normA m = m) := Lib.hid ⟨if_neg hm168, if_neg hm168⟩
        have hin := hin0
        go_upto_region 11 with (fail)
        clear ca fa
        obtain ⟨q, hq, hq25⟩ : ∃ q, m / 8 = q ∧ q < 25 := ⟨_, rfl, by omega⟩
        obtain ⟨r, hr, hr8⟩ : ∃ r, m % 8 = r ∧ r < 8 := ⟨_, rfl, by omega⟩
        obtain ⟨z, hz, hz56⟩ : ∃ z, 8 * r = z ∧ z ≤ 56 := ⟨_, rfl, by omega⟩
        have e1 : (m : Int).tdiv 8 = (q : Int) := by rw [Int.tdiv_eq_ediv_of_nonneg (by omega)]; omega
        have e1' : (m : Int) / 8 = (q : Int) := by omega
        have e2 : (m : Int).tmod 8 = (r : Int) := by rw [Int.tmod_eq_emod_of_nonneg (by omega)]; omega
        have e2' : (m : Int) % 8 = (r : Int) := by omega
        have e3 : 8 * (r : Int) = (z : Int) := by omega
        have w1 : IntKind.i64.wrap (q : Int) = (q : Int) := IntWalk.i64_in _ (by omega)
        have w2 : IntKind.i64.wrap (z : Int) = (z : Int) := IntWalk.i64_in _ (by omega)
        have z1 : (0 : Int) ≤ (q : Int) := by omega
        have z2 : (q : Int) < 25 := by omega
        have z3 : (0 : Int) ≤ (z : Int) := by omega
        have z4 : (z : Int) ≤ 64 := by omega
        have cl := B.lane (by omega) hq25
        have ca := B.sat
        have HB : Hid (byteAt u m = IntKind.u8.wrap (u q / 2 ^ z)) := Lib.hid (by unfold byteAt; rw [hq, hr, hz, wrap_u8])
        obtain ⟨x0, hx0, hx0a, hx0b⟩ : ∃ x0, u q = x0 ∧ 0 ≤ x0 ∧ x0 ≤ 18446744073709551615 := ⟨_, rfl, by have := hin q hq25; unfold in64 at this; omega, by have := hin q hq25; unfold in64 at this; omega⟩
        rw [hx0] at cl HB
        clear hx0 hq hr hz
        refine wp_region_marks_in (fun _ => oneMean 5 #[.int .u8 (IntKind.u8.wrap (x0 / 2 ^ z))]) 20 (by kernel_rfl) (by kernel_rfl) (fun k0 => ?_)
        simp only [List.take_succ_cons, List.take_zero, List.drop_succ_cons, List.drop_zero]
        repeat (first
          | (refine marks_ex rfl rfl (by kernel_rfl) ?_; apply Exists.intro; refine And.intro (fun w' hk => ?_) (And.intro ?_ ?_); (focus (have q0 := hk.cell cl; have q1 := hk.cell ca; clear hk; go_simp; exact rfl)); (focus (exact rfl)); simp only [Act.put, List.setIfInBounds_toArray, List.set_cons_zero, List.set_cons_succ]))
        refine marks_lay 0 rfl rfl (by kernel_rfl) (fun w' hk => ?_) ?_
        · refine ⟨_, _, by go_simp, (Kept.refl w').alloc _, ⟨_, rfl, Blk.new _ _ _⟩⟩
        simp only [Act.put, List.setIfInBounds_toArray, List.set_cons_zero, List.set_cons_succ]
        refine marks_nil ?_
        intro a'' W5 hkW5 hra
        obtain ⟨mb, hmb, rfl⟩ := hra.mark1 57 0 (by kernel_rfl) rfl
        simp only [Act.put, List.setIfInBounds_toArray, List.set_cons_zero, List.set_cons_succ]
        clear hra
        obtain ⟨nb, rfl, Bn⟩ := hmb
        have k5 := k.later hkW5
        have B5 := B.kept hkW5
        have hown5 := ownsRow_kept hown hkW5
        have hg5 : g ≤ W5.heap.size := Nat.le_trans hgW hkW5.size
        clear ca cl hkW5 k B hown
        go_wp2_with (at_builtin; refine wpList_append_at 42 5 info5 Try.underlying42 rfl (by decide) hown5 nb 0 1 1 [.int .u8 (IntKind.u8.wrap (x0 / 2 ^ z))] rfl (by intro u hu; simp at hu; subst hu; rfl) (by intro j u hj; rw [Nat.zero_add]; exact Bn.cell j (by simpa using hj)) (by omega) (by decide) (by decide) hg5 (.tmp 38) (.tmp 57) rfl rfl rfl rfl ?_; intro v' w1 hown6 hgrow hne; have k6 := k5.grown hown5 hgrow (by omega); have B6 := grown_blk B5 hown5 hgrow (by omega); have hg6 : g ≤ w1.heap.size := Nat.le_trans hg5 hgrow.size; clear hown5 hgrow k5 B5 Bn hg5; have ca := B6.sat; have fa := B6.free; have w5 : IntKind.i64.wrap ((m : Int) + 1) = (m : Int) + 1 := IntWalk.i64_in _ (by omega))
        go_roundw
        case rel => exact ⟨i + 1, by omega, by go_num, k6.trans (Touch.set _ _ _ _), by rw [HV.out.1, HN.out.1, HN.out.2]; exact B6.setAt _, by rw [HV.out.2, HN.out.1, HN.out.2, HB.out]; exact ownsRow_touch hown6 (Touch.set _ _ _ _) hbg, by simpa [World.setCell] using hg6⟩
        case measure => simp [intOf]; omega
    · have yi : 65536 ≤ (i : Int) := by omega
      obtain rfl : i = 65536 := by omega
      go_wp2_with fail
      go_ret
      exact ⟨_, rfl, k, B, ownsRow_base hown hwg⟩
end Go.Proofs.Ytnajihlhcdedgaa

namespace Go.Proofs.Ytnajihlhcdedgaa
open Go.RowKit
set_option linter.unusedVariables false
set_option linter.unusedSimpArgs false

/-- The lanes when n bytes are in, and the end. -/
def hashS (C : Nat → Int) (n : Nat) (d : Int) : Nat → Int := kend (takes C (fun _ => 0) 0 n).1 (takes C (fun _ => 0) 0 n).2 d
/-- What Hash answers. -/
def hashV (C : Nat → Int) (n : Nat) (d : Int) (many : Nat) : List Value := outsV (hashS C n d) 0 many
theorem hashV_length (C : Nat → Int) (n : Nat) (d : Int) (many : Nat) : (hashV C n d many).length = many := by simp [hashV, outsV]
/-- A nil slice. -/
theorem SlB.nil (w : World) (N : Nat) (C : Nat → Int) : SlB w none 0 0 N C := ⟨fun j hj => absurd hj (by omega), fun j hj => absurd hj (by omega)⟩

set_option maxRecDepth 100000 in
set_option maxHeartbeats 4000000 in
theorem k_Hash (w : World) (d : Int) (h1 : 1 ≤ d) (h2 : d ≤ 127) (sl : Option Addr) (n cap N : Nat) (C : Nat → Int) (hn : (n : Int) ≤ 9223372036854775807) (hS : SlB w sl n cap N C) (hN : N ≤ w.heap.size) (many : Nat) (hm : many ≤ 65536) :
    Calls Try.prog 63 #[.int .u8 d, .slice sl n cap, .int .i64 (many : Int)] w fun e w' => ∃ v, e = .returned v ∧ Kept w w' ∧ w'.ownsRow w.heap.size 5 1 v many (hashV C n d many) := by
  go_enter Try.func63, Try.ntmps63
  go_wp2_with fail
  refine (k_New _ d h1 h2).mono ?_
  rintro e W1 ⟨b, rfl, hb, B1, k1⟩
  go_wp2_with fail
  refine (k_Write _ b _ 0 d 0 (by omega) sl n cap N C hn (hS.kept k1) (by omega) B1).mono ?_
  rintro e W2 ⟨rfl, k2, B2⟩
  have k3 := k2.kept k1 hb
  clear k1 k2 B1
  go_wp2_with fail
  refine (k_End_le _ b _ d _ (takes_le C _ (by omega) n) many hm (by omega) (by omega) B2).mono ?_
  rintro e W3 ⟨v, rfl, k4, B4, hown⟩
  have k5 := k4.kept k3 hb
  have hs := k3.size
  clear k3 k4 B2 B4
  go_wp2_with fail
  go_ret
  exact ⟨_, rfl, k5, ownsRow_base hown hs⟩
end Go.Proofs.Ytnajihlhcdedgaa

namespace Go.Proofs.Ytnajihlhcdedgaa
open Go.RowKit
set_option linter.unusedVariables false
set_option linter.unusedSimpArgs false

/-- i bytes from place 0 on. -/
def chain (s : Nat → Int) (D : Nat → Int) : Nat → Nat → Int
  | 0 => s
  | i + 1 => kflip (chain s D i) i (D i)
/-- The lanes behind k whole blocks, permuted. -/
def blockS (C : Nat → Int) : Nat → Nat → Int
  | 0 => fun _ => 0
  | k + 1 => kperm 12 (chain (blockS C k) (fun i => C (168 * k + i)) 168)
/-- The lanes ahead of the last permutation: r bytes behind k blocks, and the end. -/
def preS (C : Nat → Int) (k r : Nat) (d : Int) : Nat → Int := kflip (kflip (norm (chain (blockS C k) (fun i => C (168 * k + i)) r) r) (normA r) d) 167 128
/-- j permutations more. -/
def sq (s : Nat → Int) : Nat → Nat → Int
  | 0 => s
  | j + 1 => kperm 12 (sq s j)
/-- Byte i of what comes out. -/
def rbyte (s : Nat → Int) (i : Nat) : Int := byteAt (sq s (i / 168 + 1)) (i % 168)
def rbytes (s : Nat → Int) (i : Nat) : List Value := (List.range i).map fun i => Value.int .u8 (rbyte s i)

theorem chain_in {s D : Nat → Int} (h : ∀ i, i < 25 → in64 (s i)) : ∀ n, ∀ i, i < 25 → in64 (chain s D n i)
  | 0 => h
  | n + 1 => kflip_in (chain_in h n) n (D n)
theorem blockS_in (C : Nat → Int) : ∀ k, ∀ i, i < 25 → in64 (blockS C k i)
  | 0 => fun i _ => by unfold blockS in64; omega
  | k + 1 => fun i _ => kround_in _ _ _
theorem sq_in {s : Nat → Int} (h : ∀ i, i < 25 → in64 (s i)) : ∀ n, ∀ i, i < 25 → in64 (sq s n i)
  | 0 => h
  | n + 1 => fun i _ => kround_in _ _ _

theorem takes_in {C : Nat → Int} {k : Nat} (h : norm (takes C (fun _ => 0) 0 (168 * k)).1 (takes C (fun _ => 0) 0 (168 * k)).2 = blockS C k ∧ normA (takes C (fun _ => 0) 0 (168 * k)).2 = 0) :
    ∀ i, i < 168 → takes C (fun _ => 0) 0 (168 * k + (i + 1)) = (chain (blockS C k) (fun i => C (168 * k + i)) (i + 1), i + 1)
  | 0, _ => by
    show takes C (fun _ => 0) 0 (168 * k + 1) = _
    simp only [takes, h.1, h.2, chain, Nat.add_zero, Nat.zero_add]
  | i + 1, hi => by
    have ih := takes_in h i (by omega)
    rw [← Nat.add_assoc, takes, ih]
    simp only [norm, normA]
    rw [if_neg (by omega), if_neg (by omega)]
    rfl
theorem takes_block (C : Nat → Int) : ∀ k, norm (takes C (fun _ => 0) 0 (168 * k)).1 (takes C (fun _ => 0) 0 (168 * k)).2 = blockS C k ∧ normA (takes C (fun _ => 0) 0 (168 * k)).2 = 0
  | 0 => ⟨rfl, rfl⟩
  | k + 1 => by
    have h := takes_in (takes_block C k) 167 (by omega)
    rw [show 168 * (k + 1) = 168 * k + (167 + 1) by omega, h]
    exact ⟨rfl, rfl⟩
theorem hashS_pre (C : Nat → Int) (k r : Nat) (d : Int) (hr : r ≤ 168) (h0 : k = 0 ∨ 0 < r) : hashS C (168 * k + r) d = kperm 12 (preS C k r d) := by
  unfold hashS kend preS
  rcases Nat.eq_zero_or_pos r with rfl | hp
  · obtain rfl : k = 0 := by omega
    rfl
  · obtain ⟨i, rfl⟩ : ∃ i, r = i + 1 := ⟨r - 1, by omega⟩
    rw [takes_in (takes_block C k) i (by omega)]
theorem gives_in' {s : Nat → Int} {j : Nat} (h : norm (gives (kperm 12 s) 0 (168 * j)).1 (gives (kperm 12 s) 0 (168 * j)).2 = sq s (j + 1) ∧ normA (gives (kperm 12 s) 0 (168 * j)).2 = 0) :
    ∀ i, i < 168 → gives (kperm 12 s) 0 (168 * j + (i + 1)) = (sq s (j + 1), i + 1)
  | 0, _ => by
    show gives (kperm 12 s) 0 (168 * j + 1) = _
    simp only [gives, h.1, h.2]
  | i + 1, hi => by
    have ih := gives_in' h i (by omega)
    rw [← Nat.add_assoc, gives, ih]
    simp only [norm, normA]
    rw [if_neg (by omega), if_neg (by omega)]
theorem gives_block (s : Nat → Int) : ∀ j, norm (gives (kperm 12 s) 0 (168 * j)).1 (gives (kperm 12 s) 0 (168 * j)).2 = sq s (j + 1) ∧ normA (gives (kperm 12 s) 0 (168 * j)).2 = 0
  | 0 => ⟨rfl, rfl⟩
  | j + 1 => by
    have h := gives_in' (gives_block s j) 167 (by omega)
    rw [show 168 * (j + 1) = 168 * j + (167 + 1) by omega, h]
    exact ⟨rfl, rfl⟩
theorem outs_rbyte (s : Nat → Int) (i : Nat) : outs (kperm 12 s) 0 i = rbyte s i := by
  obtain ⟨j, t, ht, rfl⟩ : ∃ j t, t < 168 ∧ i = 168 * j + t := ⟨i / 168, i % 168, Nat.mod_lt _ (by omega), by omega⟩
  have e1 : (168 * j + t) / 168 = j := by omega
  have e2 : (168 * j + t) % 168 = t := by omega
  unfold outs rbyte
  rw [e1, e2]
  rcases Nat.eq_zero_or_pos t with rfl | hp
  · have h := gives_block s j
    rw [Nat.add_zero, h.1, h.2]
  · obtain ⟨i, rfl⟩ : ∃ i, t = i + 1 := ⟨t - 1, by omega⟩
    rw [gives_in' (gives_block s j) i (by omega)]
    simp only [norm, normA]
    rw [if_neg (by omega), if_neg (by omega)]
theorem hashV_rbytes (C : Nat → Int) (k r : Nat) (d : Int) (hr : r ≤ 168) (h0 : k = 0 ∨ 0 < r) (many : Nat) : hashV C (168 * k + r) d many = rbytes (preS C k r d) many := by
  unfold hashV outsV rbytes
  rw [hashS_pre C k r d hr h0]
  exact List.map_congr_left fun i _ => by rw [outs_rbyte]
theorem byteAt_256 (s : Nat → Int) (a : Nat) : byteAt s a = s (a / 8) / 256 ^ (a % 8) % 256 := by
  unfold byteAt
  rw [Int.pow_mul]
  rfl

set_option maxRecDepth 100000 in
set_option maxHeartbeats 4000000 in
theorem r_add (s : Nat → Int) (a : Nat) (ha : a < 200) (c : Int) (c0 : 0 ≤ c) (c1 : c ≤ 255) : Pure Try.prog 126 #[.agg (rowF 25 (fun p => .int .u64 (s p))), .int .i64 (a : Int), .int .u8 c] (.agg (rowF 25 (fun p => .int .u64 (kflip s a c p)))) := fun w => by
  obtain ⟨q, hq, hq25⟩ : ∃ q, a / 8 = q ∧ q < 25 := ⟨_, rfl, by omega⟩
  obtain ⟨r, hr, hr8⟩ : ∃ r, a % 8 = r ∧ r < 8 := ⟨_, rfl, by omega⟩
  obtain ⟨m, hm, hm56⟩ : ∃ m, 8 * r = m ∧ m ≤ 56 := ⟨_, rfl, by omega⟩
  have e1 : (a : Int).tdiv 8 = (q : Int) := by rw [Int.tdiv_eq_ediv_of_nonneg (by omega)]; omega
  have e1' : (a : Int) / 8 = (q : Int) := by omega
  have e2 : (a : Int).tmod 8 = (r : Int) := by rw [Int.tmod_eq_emod_of_nonneg (by omega)]; omega
  have e2' : (a : Int) % 8 = (r : Int) := by omega
  have e3 : 8 * (r : Int) = (m : Int) := by omega
  have w1 : IntKind.i64.wrap (q : Int) = (q : Int) := IntWalk.i64_in _ (by omega)
  have w2 : IntKind.i64.wrap (m : Int) = (m : Int) := IntWalk.i64_in _ (by omega)
  have w3 : IntKind.u64.wrap c = c := by simp [IntKind.wrap, IntKind.bits, IntKind.signed]; omega
  have w4 := wrap_byte c0 c1 hm56
  have z1 : (0 : Int) ≤ (q : Int) := by omega
  have z2 : (q : Int) < 25 := by omega
  have HP := Lib.hid (r_power (n := m) (by omega))
  have HV : Hid (∀ j, kflip s a c j = if j = q then bits .xor .u64 (s q) (c * 2 ^ m) else s j) := Lib.hid fun j => by unfold kflip; rw [hq, hr, hm]
  clear hq hr hm ha
  obtain ⟨p2, hp2⟩ : ∃ p2 : Int, (2 : Int) ^ m = p2 := ⟨_, rfl⟩
  rw [hp2] at w4 HP HV
  clear hp2
  obtain ⟨x0, hx0⟩ : ∃ x0, s q = x0 := ⟨_, rfl⟩
  rw [hx0] at HV
  have HX := Lib.hid hx0
  clear hx0
  go_enter Try.func126, Try.ntmps126
  obtain ⟨g1, hg1⟩ : ∃ g, w.heap.size = g := ⟨_, rfl⟩
  obtain ⟨g2, hg2⟩ : ∃ g, g1 + 1 = g := ⟨_, rfl⟩
  have n12 : g1 < g2 := by omega
  have nw1 : w.heap.size ≤ g1 := by omega
  have nw2 : w.heap.size ≤ g2 := by omega
  go_upto_region 1 with (fail)
  try simp only [hg1]
  try simp only [hg2]
  refine abs_world (fun W => Kept w W ∧ Blk W g1 60 (rowF 25 (fun p => .int .u64 (s p))) ∧ Blk W g2 60 (rowF 25 (fun p => .int .u64 0))) ⟨((Kept.refl w).alloc _).alloc _, ?_, ?_⟩ ?_
  · rw [← hg1]; exact (Blk.new _ _ _).alloc _
  · rw [← hg2, ← hg1]; exact heap_alloc2_new w _ _
  rintro W1 ⟨k, Bg1, Bg2⟩
  clear hg1 hg2
  have cl := Bg1.at hq25
  rw [HX.out] at cl
  refine wp_region_calm 15 (by kernel_rfl) (by kernel_rfl) ?_
  simp only [List.take_succ_cons, List.take_zero, List.drop_succ_cons, List.drop_zero]
  repeat (first
    | (refine calm_skip rfl ?_; simp only [Act.put, List.setIfInBounds_toArray, List.set_cons_zero, List.set_cons_succ])
    | (refine calm_ex rfl ?_; apply Exists.intro; refine And.intro (fun w' hk => ?_) ?_; (focus (have q0 := hk.cell cl; clear hk; go_simp; exact rfl)); simp only [Act.put, List.setIfInBounds_toArray, List.set_cons_zero, List.set_cons_succ])
    | (refine calm_step _ rfl (HP.out.call ?_) ?_; (focus (intro w'; go_simp; done)); simp only [Act.put, List.setIfInBounds_toArray, List.set_cons_zero, List.set_cons_succ]))
  refine calm_nil ?_
  intro W2 hkW2
  have k2 := k.trans hkW2
  have B1 := Bg1.kept hkW2
  have B2 := Bg2.kept hkW2
  clear k Bg1 Bg2 cl hkW2
  have f1 := B1.free
  have cl := B1.at hq25
  go_upto_region 2 with (fail)
  refine abs_world (fun W => Kept w W ∧ Blk W g1 60 (rowF 25 (fun p => .int .u64 (kflip s a c p))) ∧ Blk W g2 60 (rowF 25 (fun p => .int .u64 0))) ⟨k2.setCell (kept_side (by omega)) _, B1.set hq25 fun j hj => ?_, B2.set_other (by omega) _⟩ ?_
  · rw [HV.out]; split <;> rfl
  clear cl f1 k2 B1 B2
  rintro W3 ⟨k, Bg1, Bg2⟩
  go_wp2_with (first | (refine wpList_load_part 60 (.tmp 3) Bg1 (Nat.le_refl _) Try.underlying60 size60 rfl rfl rfl ?_) | (refine wpList_store_part (h' := fun p => .int .u64 (kflip s a c p)) 60 (.tmp 6) (.tmp 22) Bg2 (Nat.le_refl _) size60 (fun _ => rfl) rfl rfl rfl rfl ?_))
  refine ret_blk rfl (Bg2.setRow _) Try.underlying60 (by rw [rowF_size]; exact size60) rfl rfl (And.intro ?_ (k.setRow nw2 _))
  rw [rowF_congr (g := fun p => Value.int .u64 (kflip s a c p)) fun j hj => by rw [if_pos hj]]
end Go.Proofs.Ytnajihlhcdedgaa

namespace Go.Proofs.Ytnajihlhcdedgaa
open Go.RowKit
set_option linter.unusedVariables false
set_option linter.unusedSimpArgs false

theorem calm_load_part {P : Program} {a : Act} {w : World} {o : Oper} (ty : TypeId) (x : Operand) {g : Nat} {t : TypeId} {n m k : Nat} {e : TypeId} {f : Nat → Value} (B : Blk w g t (rowF n f)) (hm : m ≤ n) (hu : P.underlying ty = some (.array k e)) (hi : (P.info? ty).map (·.size) = some m)
    (ho : o.op = .load ty x) (hx : a.eval x = .pointer (some ⟨g, 0, none⟩)) : calm P o a w (.agg (rowF m f)) :=
  calm_run _ fun w' hk => by
    obtain ⟨dst, op, type, pos, after, guard⟩ := o
    simp only at ho
    subst ho
    simp only [execOp, hx, Instr.loadAt, Instr.sureAddr, Sem.run_bind, Sem.run_pure, Result.andThen_ok, run_loadVar_part w' g t ty f (B.kept hk) hm hu hi]
theorem part25 {w : World} {g : Nat} {f h : Nat → Value} (B : Blk w g 60 (rowF 25 f)) : Blk (w.setRow g (rowF 25 (fun i => if i < 25 then h i else f i))) g 60 (rowF 25 h) := by
  have := B.setRow (rowF 25 (fun i => if i < 25 then h i else f i))
  rw [rowF_congr (f := h) (g := fun i => if i < 25 then h i else f i) fun j hj => by rw [if_pos hj]]
  exact this
theorem ownsRow_setRow {w : World} {base : Nat} {e : TypeId} {size : Nat} {v : Value} {n : Nat} {xs : List Value} (h : w.ownsRow base e size v n xs) {g : Nat} (hg : g < base) (cs : Array Value) : (w.setRow g cs).ownsRow base e size v n xs :=
  ownsRow_touch h (Touch.setRow g w cs) hg
def lenV : Value → Nat
  | .slice _ n _ => n
  | _ => 0
theorem ownsRow_slice1 {w : World} {base : Nat} {e : TypeId} {v : Value} {n : Nat} {xs : List Value} (h : w.ownsRow base e 1 v n xs) : ∃ a c, v = .slice a n c := by
  rcases h.2 with ⟨rfl, rfl⟩ | ⟨g, cap, cur, rfl, _⟩
  · exact ⟨_, _, rfl⟩
  · exact ⟨_, _, rfl⟩
theorem rbytes_succ (s : Nat → Int) (j x : Nat) (hx : x < 168) : rbytes s (168 * j + x + 1) = rbytes s (168 * j + x) ++ [.int .u8 (sq s (j + 1) (x / 8) / 256 ^ (x % 8) % 256)] := by
  have h : rbyte s (168 * j + x) = sq s (j + 1) (x / 8) / 256 ^ (x % 8) % 256 := by
    unfold rbyte
    rw [byteAt_256, show (168 * j + x) / 168 = j by omega, show (168 * j + x) % 168 = x by omega]
  rw [← h]
  unfold rbytes
  rw [List.range_succ, List.map_append, List.map_singleton]
theorem preS_in (C : Nat → Int) (k r : Nat) (d : Int) : ∀ i, i < 25 → in64 (preS C k r d i) := by
  intro i hi
  refine kflip_in (kflip_in ?_ _ _) _ _ i hi
  intro i hi
  unfold norm
  split
  · exact kround_in _ _ _
  · exact chain_in (blockS_in C k) r i hi

set_option maxRecDepth 100000 in
set_option maxHeartbeats 4000000 in
theorem r_Hash (w : World) (d : Int) (d0 : 1 ≤ d) (d1 : d ≤ 127) (sl : Option Addr) (n cap gs o : Nat) (C : Nat → Int) (hA : n = 0 ∨ sl = some ⟨gs, o, none⟩) (hnc : n ≤ cap) (hcap : (cap : Int) ≤ 9223372036854775807)
    (hC : Hid (∀ j, j < n → w.cell? ⟨gs, o + j, none⟩ = some (.int .u8 (C j)))) (hby : Hid (∀ j, j < n → 0 ≤ C j ∧ C j ≤ 255)) (many : Nat) (hm : many ≤ 65536) (K r : Nat) (hKr : Hid (n = 168 * K + r)) (hr : r ≤ 168) (hK : K = 0 ∨ 0 < r) :
    Calls Try.prog 64 #[.int .u8 d, .slice sl n cap, .int .i64 (many : Int)] w fun e w' => ∃ v, e = .returned v ∧ Kept w w' ∧ w'.ownsRow w.heap.size 5 1 v many (rbytes (preS C K r d) many) := by
  have hpre := preS_in C K r d
  have HPR : Hid (preS C K r d = kflip (kflip (norm (chain (blockS C K) (fun i => C (168 * K + i)) r) r) (normA r) d) 167 128) := Lib.hid rfl
  have HPS : Hid (∀ i, i < 25 → in64 (preS C K r d i)) := Lib.hid hpre
  generalize preS C K r d = pre at *
  clear hpre
  obtain ⟨g, hg⟩ : ∃ g, w.heap.size = g := ⟨_, rfl⟩
  have nw : w.heap.size ≤ g := by omega
  go_enter Try.func64, Try.ntmps64
  go_upto_region 2 with (fail)
  try simp only [hg]
  refine abs_world (fun W => Kept w W ∧ Blk W g 60 (rowF 25 (fun p => .int .u64 (blockS C 0 p)))) ⟨(Kept.refl w).alloc _, by rw [← hg]; exact Blk.new _ _ _⟩ ?_
  rintro W0 ⟨k0, B0⟩
  go_loopw [1] (fun v wr => ∃ j m c a, v = .slice a m c ∧ j ≤ K ∧ Hid (m + 168 * j = n) ∧ Hid (c + 168 * j = cap) ∧ (m = 0 ∨ a = some ⟨gs, o + 168 * j, none⟩) ∧ Kept w wr ∧ Blk wr g 60 (rowF 25 (fun p => .int .u64 (blockS C j p)))) (fun v _ => lenV v)
  case atStart => exact ⟨0, n, cap, sl, rfl, Nat.zero_le _, Lib.hid rfl, Lib.hid rfl, hA, k0, B0⟩
  case round =>
    clear k0 B0
    obtain ⟨j, m, c, a, rfl, hjK, hmn, hcc, hA2, k, B⟩ := hrel
    have hmc : m ≤ c := by have := hmn.out; have := hcc.out; omega
    rcases Nat.lt_or_ge 168 m with hlt | hge
    · obtain rfl : a = some ⟨gs, o + 168 * j, none⟩ := by rcases hA2 with h | h; omega; exact h
      clear hA2
      have y1 : (168 : Int) < (m : Int) := by omega
      have hc168 : c ≠ 168 := by omega
      have hchain := chain_in (D := fun i => C (168 * j + i)) (blockS_in C j)
      have HQ := Lib.hid (r_permute (hchain 168))
      have HS : Hid (blockS C (j + 1) = kperm 12 (chain (blockS C j) (fun i => C (168 * j + i)) 168)) := Lib.hid rfl
      obtain ⟨po, hpo⟩ : ∃ po, o + 168 * j = po := ⟨_, rfl⟩
      rw [hpo]
      have HPO := Lib.hid hpo
      clear hpo
      have HC2 : Hid (∀ i, i < 168 → w.cell? ⟨gs, po + i, none⟩ = some (.int .u8 (C (168 * j + i)))) := Lib.hid fun i hi => by
        have := hC.out (168 * j + i) (by have := hmn.out; omega)
        rw [← HPO.out, Nat.add_assoc]
        exact this
      have HB2 : Hid (∀ i, i < 168 → 0 ≤ C (168 * j + i) ∧ C (168 * j + i) ≤ 255) := Lib.hid fun i hi => hby.out (168 * j + i) (by have := hmn.out; omega)
      have HD : Hid (∀ i, chain (blockS C j) (fun i => C (168 * j + i)) (i + 1) = kflip (chain (blockS C j) (fun i => C (168 * j + i)) i) i (C (168 * j + i))) := Lib.hid fun i => rfl
      have HJ : Hid (j < K) := Lib.hid (by have := hmn.out; have := hKr.out; omega)
      have B' : Blk _ g 60 (rowF 25 (fun p => .int .u64 (chain (blockS C j) (fun i => C (168 * j + i)) 0 p))) := B
      clear B
      generalize chain (blockS C j) (fun i => C (168 * j + i)) = ch at *
      go_wp2_with fail
      go_loopw [8] (fun t wr => ∃ i : Nat, i ≤ 168 ∧ t = .int .i64 i ∧ Kept w wr ∧ Blk wr g 60 (rowF 25 (fun p => .int .u64 (ch i p)))) (fun t _ => 168 - (intOf t).toNat)
      case atStart => exact ⟨0, Nat.zero_le _, rfl, k, B'⟩
      case round =>
        clear k B'
        obtain ⟨i, hi, rfl, k, B⟩ := hrel
        have zi : (0 : Int) ≤ (i : Int) := by omega
        rcases Nat.lt_or_ge i 168 with hlt2 | hge2
        · have y2 : (i : Int) < 168 := by omega
          have y3 : (i : Int) < (m : Int) := by omega
          have cq := k.cell (HC2.out i hlt2)
          obtain ⟨cb0, cb1⟩ := HB2.out i hlt2
          have HDi := Lib.hid (HD.out i)
          generalize C (168 * j + i) = cb at *
          have HA := Lib.hid (r_add (ch i) i (by omega) cb cb0 cb1)
          generalize ch i = u at *
          go_upto_region 6 with (fail)
          refine wp_region_calm 7 (by kernel_rfl) (by kernel_rfl) ?_
          simp only [List.take_succ_cons, List.take_zero, List.drop_succ_cons, List.drop_zero]
          refine calm_step _ rfl (calm_load_part 60 (.tmp 7) B (Nat.le_refl _) Try.underlying60 size60 rfl rfl) ?_
          simp only [Act.put, List.setIfInBounds_toArray, List.set_cons_zero, List.set_cons_succ]
          repeat (first
            | (refine calm_ex rfl ?_; apply Exists.intro; refine And.intro (fun w' hk => ?_) ?_; (focus (have q0 := hk.cell cq; clear hk; go_simp; exact rfl)); simp only [Act.put, List.setIfInBounds_toArray, List.set_cons_zero, List.set_cons_succ])
            | (refine calm_step _ rfl (HA.out.call ?_) ?_; (focus (intro w'; go_simp; done)); simp only [Act.put, List.setIfInBounds_toArray, List.set_cons_zero, List.set_cons_succ]))
          refine calm_nil ?_
          intro W2 hkW2
          have k2 := k.trans hkW2
          have B2 := B.kept hkW2
          clear k B cq hkW2
          go_wp2_with (refine wpList_store_part (h' := fun p => .int .u64 (kflip u i cb p)) 60 (.tmp 7) (.tmp 27) B2 (Nat.le_refl _) size60 (fun _ => rfl) rfl rfl rfl rfl ?_)
          go_roundw
          case rel => exact ⟨i + 1, by omega, by go_num, k2.setRow nw _, by rw [HDi.out]; exact part25 B2⟩
          case measure => simp [intOf]; omega
        · have y2 : (168 : Int) ≤ (i : Int) := by omega
          obtain rfl : i = 168 := by omega
          go_wp2_with (refine wpList_load_part 60 (.tmp 7) B (Nat.le_refl _) Try.underlying60 size60 rfl rfl rfl ?_)
          refine (HQ.out _).mono ?_
          rintro e W3 ⟨rfl, hk3⟩
          have k3 := k.trans hk3
          have B3 := B.kept hk3
          clear k B hk3
          go_wp2_with (refine wpList_store_part (h' := fun p => .int .u64 (kperm 12 (ch 168) p)) 60 (.tmp 7) (.tmp 29) B3 (Nat.le_refl _) size60 (fun _ => rfl) rfl rfl rfl rfl ?_)
          go_roundw
          case rel => exact ⟨j + 1, m - 168, c - 168, _, rfl, HJ.out, Lib.hid (by have := hmn.out; omega), Lib.hid (by have := hcc.out; omega), .inr (by rw [← HPO.out]; simp [Addr.add_lit, Nat.mul_add, Nat.add_assoc]), k3.setRow nw _, by rw [HS.out]; exact part25 B3⟩
          case measure => simp [lenV]; omega
    · have hjK2 : j = K := by have := hmn.out; have := hKr.out; omega
      subst hjK2
      obtain rfl : m = r := by have := hmn.out; have := hKr.out; omega
      have y1 : (m : Int) ≤ 168 := by omega
      have hchain := chain_in (D := fun i => C (168 * j + i)) (blockS_in C j)
      have HD : Hid (∀ i, chain (blockS C j) (fun i => C (168 * j + i)) (i + 1) = kflip (chain (blockS C j) (fun i => C (168 * j + i)) i) i (C (168 * j + i))) := Lib.hid fun i => rfl
      have HC2 : Hid (∀ i, i < m → a = some ⟨gs, o + 168 * j, none⟩ ∧ w.cell? ⟨gs, o + 168 * j + i, none⟩ = some (.int .u8 (C (168 * j + i)))) := Lib.hid fun i hi => by
        have := hC.out (168 * j + i) (by have := hmn.out; omega)
        rw [Nat.add_assoc]
        exact ⟨by rcases hA2 with h | h; omega; exact h, this⟩
      have HB2 : Hid (∀ i, i < m → 0 ≤ C (168 * j + i) ∧ C (168 * j + i) ≤ 255) := Lib.hid fun i hi => hby.out (168 * j + i) (by have := hmn.out; omega)
      have B' : Blk _ g 60 (rowF 25 (fun p => .int .u64 (chain (blockS C j) (fun i => C (168 * j + i)) 0 p))) := B
      clear B hA2
      generalize chain (blockS C j) (fun i => C (168 * j + i)) = ch at *
      go_wp2_with fail
      go_loopw [9] (fun t wr => ∃ i : Nat, i ≤ m ∧ t = .int .i64 i ∧ Kept w wr ∧ Blk wr g 60 (rowF 25 (fun p => .int .u64 (ch i p)))) (fun t _ => m - (intOf t).toNat)
      case atStart => exact ⟨0, Nat.zero_le _, rfl, k, B'⟩
      case round =>
        clear k B'
        obtain ⟨i, hi, rfl, k, B⟩ := hrel
        have zi : (0 : Int) ≤ (i : Int) := by omega
        rcases Nat.lt_or_ge i m with hlt2 | hge2
        · have y3 : (i : Int) < (m : Int) := by omega
          obtain ⟨rfl, cq0⟩ := HC2.out i hlt2
          have cq := k.cell cq0
          clear cq0
          obtain ⟨cb0, cb1⟩ := HB2.out i hlt2
          have HDi := Lib.hid (HD.out i)
          generalize C (168 * j + i) = cb at *
          have HA := Lib.hid (r_add (ch i) i (by omega) cb cb0 cb1)
          generalize ch i = u at *
          generalize o + 168 * j = po at *
          go_upto_region 12 with (fail)
          refine wp_region_calm 7 (by kernel_rfl) (by kernel_rfl) ?_
          simp only [List.take_succ_cons, List.take_zero, List.drop_succ_cons, List.drop_zero]
          refine calm_step _ rfl (calm_load_part 60 (.tmp 7) B (Nat.le_refl _) Try.underlying60 size60 rfl rfl) ?_
          simp only [Act.put, List.setIfInBounds_toArray, List.set_cons_zero, List.set_cons_succ]
          repeat (first
            | (refine calm_ex rfl ?_; apply Exists.intro; refine And.intro (fun w' hk => ?_) ?_; (focus (have q0 := hk.cell cq; clear hk; go_simp; exact rfl)); simp only [Act.put, List.setIfInBounds_toArray, List.set_cons_zero, List.set_cons_succ])
            | (refine calm_step _ rfl (HA.out.call ?_) ?_; (focus (intro w'; go_simp; done)); simp only [Act.put, List.setIfInBounds_toArray, List.set_cons_zero, List.set_cons_succ]))
          refine calm_nil ?_
          intro W2 hkW2
          have k2 := k.trans hkW2
          have B2 := B.kept hkW2
          clear k B cq hkW2
          go_wp2_with (refine wpList_store_part (h' := fun p => .int .u64 (kflip u i cb p)) 60 (.tmp 7) (.tmp 44) B2 (Nat.le_refl _) size60 (fun _ => rfl) rfl rfl rfl rfl ?_)
          go_roundw
          case rel => exact ⟨i + 1, by omega, by go_num, k2.setRow nw _, by rw [HDi.out]; exact part25 B2⟩
          case measure => simp [intOf]; omega
        · have y2 : (m : Int) ≤ (i : Int) := by omega
          obtain rfl : i = m := by omega
          have hu := hchain i
          clear hchain HD HC2 HB2
          generalize ch i = u at *
          by_cases h168 : i = 168
          · subst h168
            have HQ := Lib.hid (r_permute hu)
            have ha1 : Pure Try.prog 126 #[.agg (rowF 25 (fun p => .int .u64 (kperm 12 u p))), .int .i64 0, .int .u8 d] _ := r_add (kperm 12 u) 0 (by omega) d (by omega) (by omega)
            have HA1 := Lib.hid ha1
            have ha2 : Pure Try.prog 126 #[.agg (rowF 25 (fun p => .int .u64 (kflip (kperm 12 u) 0 d p))), .int .i64 167, .int .u8 128] _ := r_add (kflip (kperm 12 u) 0 d) 167 (by omega) 128 (by omega) (by omega)
            have HA2 := Lib.hid ha2
            have HPP : Hid (pre = kflip (kflip (kperm 12 u) 0 d) 167 128) := Lib.hid HPR.out
            clear ha1 ha2 hu
            go_wp2_with (refine wpList_load_part 60 (.tmp 7) B (Nat.le_refl _) Try.underlying60 size60 rfl rfl rfl ?_)
            refine (HQ.out _).mono ?_
            rintro e W1 ⟨rfl, hk1⟩
            have k1 := k.trans hk1
            have B1 := B.kept hk1
            clear k B hk1
            go_upto_region 15 with (refine wpList_store_part (h' := fun p => .int .u64 (kperm 12 u p)) 60 (.tmp 7) (.tmp 49) B1 (Nat.le_refl _) size60 (fun _ => rfl) rfl rfl rfl rfl ?_)
            refine abs_world (fun W => Kept w W ∧ Blk W g 60 (rowF 25 (fun p => .int .u64 (kperm 12 u p)))) ⟨k1.setRow (by omega) _, part25 B1⟩ ?_
            clear k1 B1
            rintro W4 ⟨k, B⟩
            go_wp2_with (refine wpList_load_part 60 (.tmp 7) B (Nat.le_refl _) Try.underlying60 size60 rfl rfl rfl ?_)
            refine (HA1.out _).mono ?_
            rintro e W1 ⟨rfl, hk1⟩
            have k1 := k.trans hk1
            have B1 := B.kept hk1
            clear k B hk1
            go_upto_region 17 with (refine wpList_store_part (h' := fun p => .int .u64 (kflip (kperm 12 u) 0 d p)) 60 (.tmp 7) (.tmp 52) B1 (Nat.le_refl _) size60 (fun _ => rfl) rfl rfl rfl rfl ?_)
            refine abs_world (fun W => Kept w W ∧ Blk W g 60 (rowF 25 (fun p => .int .u64 (kflip (kperm 12 u) 0 d p)))) ⟨k1.setRow (by omega) _, part25 B1⟩ ?_
            clear k1 B1
            rintro W5 ⟨k, B⟩
            go_wp2_with (refine wpList_load_part 60 (.tmp 7) B (Nat.le_refl _) Try.underlying60 size60 rfl rfl rfl ?_)
            refine (HA2.out _).mono ?_
            rintro e W1 ⟨rfl, hk1⟩
            have k1 := k.trans hk1
            have B1 := B.kept hk1
            clear k B hk1
            go_upto_region 18 with (refine wpList_store_part (h' := fun p => .int .u64 (kflip (kflip (kperm 12 u) 0 d) 167 128 p)) 60 (.tmp 7) (.tmp 59) B1 (Nat.le_refl _) size60 (fun _ => rfl) rfl rfl rfl rfl ?_)
            refine abs_world (fun W => Kept w W ∧ Blk W g 60 (rowF 25 (fun p => .int .u64 (kflip (kflip (kperm 12 u) 0 d) 167 128 p)))) ⟨k1.setRow (by omega) _, part25 B1⟩ ?_
            clear k1 B1
            rintro W6 ⟨k, B⟩
            rw [← HPP.out] at B
            have hpre := HPS.out
            have B7 : Blk _ g 60 (rowF 25 (fun p => .int .u64 (sq pre 0 p))) := B
            have k7 := k
            go_wp2_with fail
            go_loopw [10] (fun v wr => ∃ j i, (i = 168 * j ∧ i ≤ many ∨ i = many ∧ i ≤ 168 * j) ∧ wr.ownsRow (g + 1) 5 1 v i (rbytes pre i) ∧ Kept w wr ∧ Blk wr g 60 (rowF 25 (fun p => .int .u64 (sq pre j p)))) (fun v _ => many - lenV v)
            case atStart => exact ⟨0, 0, .inl ⟨rfl, Nat.zero_le _⟩, World.ownsRow_nil _ _ _ _, k7, B7⟩
            case round =>
              clear k7 B7 k B
              obtain ⟨j, i, hij, hown, k, B⟩ := hrel
              obtain ⟨va, vc, rfl⟩ := ownsRow_slice1 hown
              rcases Nat.lt_or_ge i many with hlt | hge
              · have y1 : (i : Int) < (many : Int) := by omega
                have HI : Hid (i = 168 * j) := Lib.hid (by omega)
                have hsq := sq_in hpre j
                have HQ := Lib.hid (r_permute hsq)
                have HS : Hid (sq pre (j + 1) = kperm 12 (sq pre j)) := Lib.hid rfl
                have hin : ∀ p, p < 25 → in64 (kperm 12 (sq pre j) p) := fun p _ => kround_in _ _ _
                have HIN := Lib.hid hin
                clear hin hsq hij
                generalize sq pre j = u at *
                go_upto_region 21 with (refine wpList_load_part 60 (.tmp 7) B (Nat.le_refl _) Try.underlying60 size60 rfl rfl rfl ?_)
                refine (HQ.out _).mono ?_
                rintro e W8 ⟨rfl, hk8⟩
                have k8 := k.trans hk8
                have B8 := B.kept hk8
                have hown8 := ownsRow_kept hown hk8
                clear k B hown hk8
                go_upto_region 21 with (refine wpList_store_part (h' := fun p => .int .u64 (kperm 12 u p)) 60 (.tmp 7) (.tmp 65) B8 (Nat.le_refl _) size60 (fun _ => rfl) rfl rfl rfl rfl ?_)
                refine abs_world (fun W => Kept w W ∧ Blk W g 60 (rowF 25 (fun p => .int .u64 (kperm 12 u p))) ∧ W.ownsRow (g + 1) 5 1 (.slice va i vc) i (rbytes pre i)) ⟨k8.setRow (by omega) _, part25 B8, ownsRow_setRow hown8 (by omega) _⟩ ?_
                rintro W9 ⟨k9, B9, hown9⟩
                clear k8 B8 hown8
                go_wp2_with fail
                go_loopw [10, 11] (fun v t wr => ∃ x, x ≤ 168 ∧ t = .int .i64 ((x : Nat) : Int) ∧ i + x ≤ many ∧ wr.ownsRow (g + 1) 5 1 v (i + x) (rbytes pre (i + x)) ∧ Kept w wr ∧ Blk wr g 60 (rowF 25 (fun p => .int .u64 (kperm 12 u p)))) (fun _ t _ => 168 - (intOf t).toNat)
                case atStart => exact ⟨0, Nat.zero_le _, rfl, by omega, hown9, k9, B9⟩
                case round =>
                  clear k9 B9 hown9
                  obtain ⟨x, hx, rfl, hxm, hown, k, B⟩ := hrel
                  obtain ⟨va, vc, rfl⟩ := ownsRow_slice1 hown
                  have zx : (0 : Int) ≤ (x : Int) := by omega
                  obtain ⟨z, hz⟩ : ∃ z, i + x = z := ⟨_, rfl⟩
                  rw [hz] at hxm hown ⊢
                  rcases Nat.lt_or_ge x 168 with hx168 | hx168
                  · have y2 : (x : Int) < 168 := by omega
                    rcases Nat.lt_or_ge z many with hlm | hlm
                    · have y3 : (z : Int) < (many : Int) := by omega
                      have HB : Hid (rbytes pre (z + 1) = rbytes pre z ++ [.int .u8 (kperm 12 u (x / 8) / 256 ^ (x % 8) % 256)]) := Lib.hid (by have h9 := rbytes_succ pre j x hx168; rw [← HI.out, hz, HS.out] at h9; exact h9)
                      have HZ := Lib.hid hz
                      clear hz
                      obtain ⟨q, hq, hq25⟩ : ∃ q, x / 8 = q ∧ q < 25 := ⟨_, rfl, by omega⟩
                      obtain ⟨r2, hr2, hr8⟩ : ∃ r2, x % 8 = r2 ∧ r2 < 8 := ⟨_, rfl, by omega⟩
                      rw [hq, hr2] at HB
                      have e1 : (x : Int).tdiv 8 = (q : Int) := by rw [Int.tdiv_eq_ediv_of_nonneg (by omega)]; omega
                      have e1' : (x : Int) / 8 = (q : Int) := by omega
                      have e2 : (x : Int).tmod 8 = (r2 : Int) := by rw [Int.tmod_eq_emod_of_nonneg (by omega)]; omega
                      have e2' : (x : Int) % 8 = (r2 : Int) := by omega
                      have w1 : IntKind.i64.wrap (q : Int) = (q : Int) := IntWalk.i64_in _ (by omega)
                      have z1 : (0 : Int) ≤ (q : Int) := by omega
                      have z2 : (q : Int) < 25 := by omega
                      clear hq hr2
                      have cl := B.at (i := q) hq25
                      obtain ⟨x0, hx0, hx0a, hx0b⟩ : ∃ x0, kperm 12 u q = x0 ∧ 0 ≤ x0 ∧ x0 ≤ 18446744073709551615 := ⟨_, rfl, by have := HIN.out q hq25; unfold in64 at this; omega, by have := HIN.out q hq25; unfold in64 at this; omega⟩
                      rw [hx0] at cl HB
                      clear hx0
                      go_wp2_with fail
                      go_loop [12, 13] (fun v t => ∃ kk : Nat, kk ≤ r2 ∧ t = .int .i64 kk ∧ ∃ y : Int, 0 ≤ y ∧ y ≤ 18446744073709551615 ∧ v = .int .u64 y ∧ Hid (y = x0 / 256 ^ kk)) (fun _ t => r2 - (intOf t).toNat)
                      case atStart => exact ⟨0, Nat.zero_le _, rfl, x0, hx0a, hx0b, rfl, by show x0 = x0 / 256 ^ 0; simp⟩
                      case round =>
                        obtain ⟨kk, hkk, rfl, y, hy0, hy1, rfl, hy⟩ := hrel
                        rcases Nat.lt_or_ge kk r2 with hkl | hkl
                        · have y5 : (kk : Int) < (r2 : Int) := by omega
                          go_wp2_with fail
                          go_round
                          case rel => exact ⟨kk + 1, by omega, by go_num, y / 256, by omega, by omega, rfl, by show _ = _; rw [hy.out, div256_succ]⟩
                          case measure => simp [intOf]; omega
                        · have hkm : Hid (kk = r2) := by show kk = r2; omega
                          have hby : Hid (x0 / 256 ^ r2 % 256 = y % 256) := by show x0 / 256 ^ r2 % 256 = y % 256; rw [hy.out, hkm.out]
                          have y5 : (r2 : Int) ≤ (kk : Int) := by omega
                          clear hkl
                          have hbase : g + 1 ≤ _ := B.lt
                          go_wp2_with (at_builtin; refine wpList_append_one 42 5 info5 Try.underlying42 rfl (by decide) hown [.int .u8 (y % 256)] rfl (by intro u hu; simp at hu; subst hu; rfl) (by omega) (by decide) hbase (.tmp 88) (.tmp 92) rfl rfl rfl rfl ?_; intro v' w1 hown3 hgrow hne)
                          have kw1 := grown_kept k hown hgrow (by omega)
                          have Bw1 := grown_blk B hown hgrow (by omega)
                          clear hown hgrow hbase B k
                          go_wp2_with fail
                          go_roundw
                          case rel => exact ⟨x + 1, by omega, by go_num, by have := HZ.out; omega, by rw [← Nat.add_assoc, HZ.out, HB.out, hby.out]; exact hown3, kw1, Bw1⟩
                          case measure => simp [intOf]; omega
                    · have y3 : (many : Int) ≤ (z : Int) := by omega
                      have HZ := Lib.hid hz
                      clear hz
                      go_wp2_with fail
                      go_roundw
                      case rel => exact ⟨j + 1, z, .inr ⟨by omega, by have := HZ.out; have := HI.out; omega⟩, hown, k, by rw [HS.out]; exact B⟩
                      case measure => simp [lenV]; have := HZ.out; omega
                  · have y2 : (168 : Int) ≤ (x : Int) := by omega
                    have HZ := Lib.hid hz
                    clear hz
                    go_wp2_with fail
                    go_roundw
                    case rel => exact ⟨j + 1, z, .inl ⟨by have := HZ.out; have := HI.out; omega, by omega⟩, hown, k, by rw [HS.out]; exact B⟩
                    case measure => simp [lenV]; have := HZ.out; omega
              · have y1 : (many : Int) ≤ (i : Int) := by omega
                obtain rfl : i = many := by omega
                go_wp2_with fail
                go_ret
                exact ⟨_, rfl, k, ownsRow_base hown (by omega)⟩
          · have h168i : (i : Int) ≠ 168 := by omega
            have h168b : ((i : Int) == 168) = false := by simp [h168i]
            have ha1 := r_add u i (by omega) d (by omega) (by omega)
            have HA1 := Lib.hid ha1
            have ha2 : Pure Try.prog 126 #[.agg (rowF 25 (fun p => .int .u64 (kflip u i d p))), .int .i64 167, .int .u8 128] _ := r_add (kflip u i d) 167 (by omega) 128 (by omega) (by omega)
            have HA2 := Lib.hid ha2
            have HPP : Hid (pre = kflip (kflip u i d) 167 128) := Lib.hid (by have := HPR.out; unfold norm normA at this; rw [if_neg h168, if_neg h168] at this; exact this)
            clear ha1 ha2 hu
            go_wp2_with (refine wpList_load_part 60 (.tmp 7) B (Nat.le_refl _) Try.underlying60 size60 rfl rfl rfl ?_)
            refine (HA1.out _).mono ?_
            rintro e W1 ⟨rfl, hk1⟩
            have k1 := k.trans hk1
            have B1 := B.kept hk1
            clear k B hk1
            go_upto_region 17 with (refine wpList_store_part (h' := fun p => .int .u64 (kflip u i d p)) 60 (.tmp 7) (.tmp 57) B1 (Nat.le_refl _) size60 (fun _ => rfl) rfl rfl rfl rfl ?_)
            refine abs_world (fun W => Kept w W ∧ Blk W g 60 (rowF 25 (fun p => .int .u64 (kflip u i d p)))) ⟨k1.setRow (by omega) _, part25 B1⟩ ?_
            clear k1 B1
            rintro W5 ⟨k, B⟩
            go_wp2_with (refine wpList_load_part 60 (.tmp 7) B (Nat.le_refl _) Try.underlying60 size60 rfl rfl rfl ?_)
            refine (HA2.out _).mono ?_
            rintro e W1 ⟨rfl, hk1⟩
            have k1 := k.trans hk1
            have B1 := B.kept hk1
            clear k B hk1
            go_upto_region 18 with (refine wpList_store_part (h' := fun p => .int .u64 (kflip (kflip u i d) 167 128 p)) 60 (.tmp 7) (.tmp 59) B1 (Nat.le_refl _) size60 (fun _ => rfl) rfl rfl rfl rfl ?_)
            refine abs_world (fun W => Kept w W ∧ Blk W g 60 (rowF 25 (fun p => .int .u64 (kflip (kflip u i d) 167 128 p)))) ⟨k1.setRow (by omega) _, part25 B1⟩ ?_
            clear k1 B1
            rintro W6 ⟨k, B⟩
            rw [← HPP.out] at B
            have hpre := HPS.out
            have B7 : Blk _ g 60 (rowF 25 (fun p => .int .u64 (sq pre 0 p))) := B
            have k7 := k
            go_wp2_with fail
            go_loopw [10] (fun v wr => ∃ j i, (i = 168 * j ∧ i ≤ many ∨ i = many ∧ i ≤ 168 * j) ∧ wr.ownsRow (g + 1) 5 1 v i (rbytes pre i) ∧ Kept w wr ∧ Blk wr g 60 (rowF 25 (fun p => .int .u64 (sq pre j p)))) (fun v _ => many - lenV v)
            case atStart => exact ⟨0, 0, .inl ⟨rfl, Nat.zero_le _⟩, World.ownsRow_nil _ _ _ _, k7, B7⟩
            case round =>
              clear k7 B7 k B
              obtain ⟨j, i, hij, hown, k, B⟩ := hrel
              obtain ⟨va, vc, rfl⟩ := ownsRow_slice1 hown
              rcases Nat.lt_or_ge i many with hlt | hge
              · have y1 : (i : Int) < (many : Int) := by omega
                have HI : Hid (i = 168 * j) := Lib.hid (by omega)
                have hsq := sq_in hpre j
                have HQ := Lib.hid (r_permute hsq)
                have HS : Hid (sq pre (j + 1) = kperm 12 (sq pre j)) := Lib.hid rfl
                have hin : ∀ p, p < 25 → in64 (kperm 12 (sq pre j) p) := fun p _ => kround_in _ _ _
                have HIN := Lib.hid hin
                clear hin hsq hij
                generalize sq pre j = u at *
                go_upto_region 21 with (refine wpList_load_part 60 (.tmp 7) B (Nat.le_refl _) Try.underlying60 size60 rfl rfl rfl ?_)
                refine (HQ.out _).mono ?_
                rintro e W8 ⟨rfl, hk8⟩
                have k8 := k.trans hk8
                have B8 := B.kept hk8
                have hown8 := ownsRow_kept hown hk8
                clear k B hown hk8
                go_upto_region 21 with (refine wpList_store_part (h' := fun p => .int .u64 (kperm 12 u p)) 60 (.tmp 7) (.tmp 65) B8 (Nat.le_refl _) size60 (fun _ => rfl) rfl rfl rfl rfl ?_)
                refine abs_world (fun W => Kept w W ∧ Blk W g 60 (rowF 25 (fun p => .int .u64 (kperm 12 u p))) ∧ W.ownsRow (g + 1) 5 1 (.slice va i vc) i (rbytes pre i)) ⟨k8.setRow (by omega) _, part25 B8, ownsRow_setRow hown8 (by omega) _⟩ ?_
                rintro W9 ⟨k9, B9, hown9⟩
                clear k8 B8 hown8
                go_wp2_with fail
                go_loopw [10, 11] (fun v t wr => ∃ x, x ≤ 168 ∧ t = .int .i64 ((x : Nat) : Int) ∧ i + x ≤ many ∧ wr.ownsRow (g + 1) 5 1 v (i + x) (rbytes pre (i + x)) ∧ Kept w wr ∧ Blk wr g 60 (rowF 25 (fun p => .int .u64 (kperm 12 u p)))) (fun _ t _ => 168 - (intOf t).toNat)
                case atStart => exact ⟨0, Nat.zero_le _, rfl, by omega, hown9, k9, B9⟩
                case round =>
                  clear k9 B9 hown9
                  obtain ⟨x, hx, rfl, hxm, hown, k, B⟩ := hrel
                  obtain ⟨va, vc, rfl⟩ := ownsRow_slice1 hown
                  have zx : (0 : Int) ≤ (x : Int) := by omega
                  obtain ⟨z, hz⟩ : ∃ z, i + x = z := ⟨_, rfl⟩
                  rw [hz] at hxm hown ⊢
                  rcases Nat.lt_or_ge x 168 with hx168 | hx168
                  · have y2 : (x : Int) < 168 := by omega
                    rcases Nat.lt_or_ge z many with hlm | hlm
                    · have y3 : (z : Int) < (many : Int) := by omega
                      have HB : Hid (rbytes pre (z + 1) = rbytes pre z ++ [.int .u8 (kperm 12 u (x / 8) / 256 ^ (x % 8) % 256)]) := Lib.hid (by have h9 := rbytes_succ pre j x hx168; rw [← HI.out, hz, HS.out] at h9; exact h9)
                      have HZ := Lib.hid hz
                      clear hz
                      obtain ⟨q, hq, hq25⟩ : ∃ q, x / 8 = q ∧ q < 25 := ⟨_, rfl, by omega⟩
                      obtain ⟨r2, hr2, hr8⟩ : ∃ r2, x % 8 = r2 ∧ r2 < 8 := ⟨_, rfl, by omega⟩
                      rw [hq, hr2] at HB
                      have e1 : (x : Int).tdiv 8 = (q : Int) := by rw [Int.tdiv_eq_ediv_of_nonneg (by omega)]; omega
                      have e1' : (x : Int) / 8 = (q : Int) := by omega
                      have e2 : (x : Int).tmod 8 = (r2 : Int) := by rw [Int.tmod_eq_emod_of_nonneg (by omega)]; omega
                      have e2' : (x : Int) % 8 = (r2 : Int) := by omega
                      have w1 : IntKind.i64.wrap (q : Int) = (q : Int) := IntWalk.i64_in _ (by omega)
                      have z1 : (0 : Int) ≤ (q : Int) := by omega
                      have z2 : (q : Int) < 25 := by omega
                      clear hq hr2
                      have cl := B.at (i := q) hq25
                      obtain ⟨x0, hx0, hx0a, hx0b⟩ : ∃ x0, kperm 12 u q = x0 ∧ 0 ≤ x0 ∧ x0 ≤ 18446744073709551615 := ⟨_, rfl, by have := HIN.out q hq25; unfold in64 at this; omega, by have := HIN.out q hq25; unfold in64 at this; omega⟩
                      rw [hx0] at cl HB
                      clear hx0
                      go_wp2_with fail
                      go_loop [12, 13] (fun v t => ∃ kk : Nat, kk ≤ r2 ∧ t = .int .i64 kk ∧ ∃ y : Int, 0 ≤ y ∧ y ≤ 18446744073709551615 ∧ v = .int .u64 y ∧ Hid (y = x0 / 256 ^ kk)) (fun _ t => r2 - (intOf t).toNat)
                      case atStart => exact ⟨0, Nat.zero_le _, rfl, x0, hx0a, hx0b, rfl, by show x0 = x0 / 256 ^ 0; simp⟩
                      case round =>
                        obtain ⟨kk, hkk, rfl, y, hy0, hy1, rfl, hy⟩ := hrel
                        rcases Nat.lt_or_ge kk r2 with hkl | hkl
                        · have y5 : (kk : Int) < (r2 : Int) := by omega
                          go_wp2_with fail
                          go_round
                          case rel => exact ⟨kk + 1, by omega, by go_num, y / 256, by omega, by omega, rfl, by show _ = _; rw [hy.out, div256_succ]⟩
                          case measure => simp [intOf]; omega
                        · have hkm : Hid (kk = r2) := by show kk = r2; omega
                          have hby : Hid (x0 / 256 ^ r2 % 256 = y % 256) := by show x0 / 256 ^ r2 % 256 = y % 256; rw [hy.out, hkm.out]
                          have y5 : (r2 : Int) ≤ (kk : Int) := by omega
                          clear hkl
                          have hbase : g + 1 ≤ _ := B.lt
                          go_wp2_with (at_builtin; refine wpList_append_one 42 5 info5 Try.underlying42 rfl (by decide) hown [.int .u8 (y % 256)] rfl (by intro u hu; simp at hu; subst hu; rfl) (by omega) (by decide) hbase (.tmp 88) (.tmp 92) rfl rfl rfl rfl ?_; intro v' w1 hown3 hgrow hne)
                          have kw1 := grown_kept k hown hgrow (by omega)
                          have Bw1 := grown_blk B hown hgrow (by omega)
                          clear hown hgrow hbase B k
                          go_wp2_with fail
                          go_roundw
                          case rel => exact ⟨x + 1, by omega, by go_num, by have := HZ.out; omega, by rw [← Nat.add_assoc, HZ.out, HB.out, hby.out]; exact hown3, kw1, Bw1⟩
                          case measure => simp [intOf]; omega
                    · have y3 : (many : Int) ≤ (z : Int) := by omega
                      have HZ := Lib.hid hz
                      clear hz
                      go_wp2_with fail
                      go_roundw
                      case rel => exact ⟨j + 1, z, .inr ⟨by omega, by have := HZ.out; have := HI.out; omega⟩, hown, k, by rw [HS.out]; exact B⟩
                      case measure => simp [lenV]; have := HZ.out; omega
                  · have y2 : (168 : Int) ≤ (x : Int) := by omega
                    have HZ := Lib.hid hz
                    clear hz
                    go_wp2_with fail
                    go_roundw
                    case rel => exact ⟨j + 1, z, .inl ⟨by have := HZ.out; have := HI.out; omega, by omega⟩, hown, k, by rw [HS.out]; exact B⟩
                    case measure => simp [lenV]; have := HZ.out; omega
              · have y1 : (many : Int) ≤ (i : Int) := by omega
                obtain rfl : i = many := by omega
                go_wp2_with fail
                go_ret
                exact ⟨_, rfl, k, ownsRow_base hown (by omega)⟩
end Go.Proofs.Ytnajihlhcdedgaa

namespace Go.Proofs.Ytnajihlhcdedgaa
open Go.RowKit
set_option linter.unusedVariables false
set_option linter.unusedSimpArgs false

def nrot (a n : Nat) : Nat := a * 2 ^ n % 18446744073709551616 + a / 2 ^ (64 - n)
/-- The number is reckoned first. -/
def force {α : Type} (n : Nat) (f : Nat → α) : α := Nat.rec (f 0) (fun m _ => f (Nat.succ m)) n
theorem force_eq {α : Type} (n : Nat) (f : Nat → α) : force n f = f n := by cases n <;> rfl
/-- 25 lanes. -/
structure St where
  a0 : Nat
  a1 : Nat
  a2 : Nat
  a3 : Nat
  a4 : Nat
  a5 : Nat
  a6 : Nat
  a7 : Nat
  a8 : Nat
  a9 : Nat
  a10 : Nat
  a11 : Nat
  a12 : Nat
  a13 : Nat
  a14 : Nat
  a15 : Nat
  a16 : Nat
  a17 : Nat
  a18 : Nat
  a19 : Nat
  a20 : Nat
  a21 : Nat
  a22 : Nat
  a23 : Nat
  a24 : Nat
def St.list (s : St) : List Nat := [s.a0, s.a1, s.a2, s.a3, s.a4, s.a5, s.a6, s.a7, s.a8, s.a9, s.a10, s.a11, s.a12, s.a13, s.a14, s.a15, s.a16, s.a17, s.a18, s.a19, s.a20, s.a21, s.a22, s.a23, s.a24]
def St.get (s : St) (i : Nat) : Nat := s.list.getD i 0
def ncol (a b c d e : Nat) : Nat := a ^^^ b ^^^ c ^^^ d ^^^ e
def nround (rc : Nat) (s : St) : St := match s with
  | St.mk a0 a1 a2 a3 a4 a5 a6 a7 a8 a9 a10 a11 a12 a13 a14 a15 a16 a17 a18 a19 a20 a21 a22 a23 a24 =>
  force (ncol a0 a5 a10 a15 a20) fun c0 =>
  force (ncol a1 a6 a11 a16 a21) fun c1 =>
  force (ncol a2 a7 a12 a17 a22) fun c2 =>
  force (ncol a3 a8 a13 a18 a23) fun c3 =>
  force (ncol a4 a9 a14 a19 a24) fun c4 =>
  force (c4 ^^^ nrot c1 1) fun d0 =>
  force (c0 ^^^ nrot c2 1) fun d1 =>
  force (c1 ^^^ nrot c3 1) fun d2 =>
  force (c2 ^^^ nrot c4 1) fun d3 =>
  force (c3 ^^^ nrot c0 1) fun d4 =>
  force (nrot (a0 ^^^ d0) 0) fun v0 =>
  force (nrot (a6 ^^^ d1) 44) fun v1 =>
  force (nrot (a12 ^^^ d2) 43) fun v2 =>
  force (nrot (a18 ^^^ d3) 21) fun v3 =>
  force (nrot (a24 ^^^ d4) 14) fun v4 =>
  force (nrot (a3 ^^^ d3) 28) fun v5 =>
  force (nrot (a9 ^^^ d4) 20) fun v6 =>
  force (nrot (a10 ^^^ d0) 3) fun v7 =>
  force (nrot (a16 ^^^ d1) 45) fun v8 =>
  force (nrot (a22 ^^^ d2) 61) fun v9 =>
  force (nrot (a1 ^^^ d1) 1) fun v10 =>
  force (nrot (a7 ^^^ d2) 6) fun v11 =>
  force (nrot (a13 ^^^ d3) 25) fun v12 =>
  force (nrot (a19 ^^^ d4) 8) fun v13 =>
  force (nrot (a20 ^^^ d0) 18) fun v14 =>
  force (nrot (a4 ^^^ d4) 27) fun v15 =>
  force (nrot (a5 ^^^ d0) 36) fun v16 =>
  force (nrot (a11 ^^^ d1) 10) fun v17 =>
  force (nrot (a17 ^^^ d2) 15) fun v18 =>
  force (nrot (a23 ^^^ d3) 56) fun v19 =>
  force (nrot (a2 ^^^ d2) 62) fun v20 =>
  force (nrot (a8 ^^^ d3) 55) fun v21 =>
  force (nrot (a14 ^^^ d4) 39) fun v22 =>
  force (nrot (a15 ^^^ d0) 41) fun v23 =>
  force (nrot (a21 ^^^ d1) 2) fun v24 =>
  force ((v0 ^^^ ((18446744073709551615 ^^^ v1) &&& v2)) ^^^ rc) fun o0 =>
  force (v1 ^^^ ((18446744073709551615 ^^^ v2) &&& v3)) fun o1 =>
  force (v2 ^^^ ((18446744073709551615 ^^^ v3) &&& v4)) fun o2 =>
  force (v3 ^^^ ((18446744073709551615 ^^^ v4) &&& v0)) fun o3 =>
  force (v4 ^^^ ((18446744073709551615 ^^^ v0) &&& v1)) fun o4 =>
  force (v5 ^^^ ((18446744073709551615 ^^^ v6) &&& v7)) fun o5 =>
  force (v6 ^^^ ((18446744073709551615 ^^^ v7) &&& v8)) fun o6 =>
  force (v7 ^^^ ((18446744073709551615 ^^^ v8) &&& v9)) fun o7 =>
  force (v8 ^^^ ((18446744073709551615 ^^^ v9) &&& v5)) fun o8 =>
  force (v9 ^^^ ((18446744073709551615 ^^^ v5) &&& v6)) fun o9 =>
  force (v10 ^^^ ((18446744073709551615 ^^^ v11) &&& v12)) fun o10 =>
  force (v11 ^^^ ((18446744073709551615 ^^^ v12) &&& v13)) fun o11 =>
  force (v12 ^^^ ((18446744073709551615 ^^^ v13) &&& v14)) fun o12 =>
  force (v13 ^^^ ((18446744073709551615 ^^^ v14) &&& v10)) fun o13 =>
  force (v14 ^^^ ((18446744073709551615 ^^^ v10) &&& v11)) fun o14 =>
  force (v15 ^^^ ((18446744073709551615 ^^^ v16) &&& v17)) fun o15 =>
  force (v16 ^^^ ((18446744073709551615 ^^^ v17) &&& v18)) fun o16 =>
  force (v17 ^^^ ((18446744073709551615 ^^^ v18) &&& v19)) fun o17 =>
  force (v18 ^^^ ((18446744073709551615 ^^^ v19) &&& v15)) fun o18 =>
  force (v19 ^^^ ((18446744073709551615 ^^^ v15) &&& v16)) fun o19 =>
  force (v20 ^^^ ((18446744073709551615 ^^^ v21) &&& v22)) fun o20 =>
  force (v21 ^^^ ((18446744073709551615 ^^^ v22) &&& v23)) fun o21 =>
  force (v22 ^^^ ((18446744073709551615 ^^^ v23) &&& v24)) fun o22 =>
  force (v23 ^^^ ((18446744073709551615 ^^^ v24) &&& v20)) fun o23 =>
  force (v24 ^^^ ((18446744073709551615 ^^^ v20) &&& v21)) fun o24 =>
  St.mk o0 o1 o2 o3 o4 o5 o6 o7 o8 o9 o10 o11 o12 o13 o14 o15 o16 o17 o18 o19 o20 o21 o22 o23 o24
def nperm (s : St) : St := nround 9223372039002292232 (nround 2147483649 (nround 9223372036854808704 (nround 9223372039002292353 (nround 9223372039002259466 (nround 32778 (nround 9223372036854775936 (nround 9223372036854808578 (nround 9223372036854808579 (nround 9223372036854808713 (nround 9223372036854775947 (nround 2147516555 (s))))))))))))

/-- A lane as a number. -/
def R (x : Int) (a : Nat) : Prop := x = (a : Int) ∧ a < 18446744073709551616
theorem R_in {x : Int} {a : Nat} (h : R x a) : in64 x := by obtain ⟨rfl, h⟩ := h; unfold in64; omega
theorem ofInt_nat {a : Nat} (h : a < 18446744073709551616) : BitVec.ofInt 64 (a : Int) = BitVec.ofNat 64 a := by
  apply BitVec.eq_of_toNat_eq
  simp
theorem R_xor {x y : Int} {a b : Nat} (h : R x a) (k : R y b) : R (bits .xor .u64 x y) (a ^^^ b) := by
  obtain ⟨rfl, h⟩ := h
  obtain ⟨rfl, k⟩ := k
  have e : a ^^^ b < 2 ^ 64 := Nat.xor_lt_two_pow (by omega) (by omega)
  refine ⟨?_, by omega⟩
  rw [xr_bv, ofInt_nat h, ofInt_nat k, BitVec.toNat_xor, BitVec.toNat_ofNat, BitVec.toNat_ofNat, Nat.mod_eq_of_lt (by omega), Nat.mod_eq_of_lt (by omega)]
theorem R_and {x y : Int} {a b : Nat} (h : R x a) (k : R y b) : R (bits .and .u64 x y) (a &&& b) := by
  obtain ⟨rfl, h⟩ := h
  obtain ⟨rfl, k⟩ := k
  have e : a &&& b ≤ a := Nat.and_le_left
  refine ⟨?_, by omega⟩
  rw [and_bv, ofInt_nat h, ofInt_nat k, BitVec.toNat_and, BitVec.toNat_ofNat, BitVec.toNat_ofNat, Nat.mod_eq_of_lt (by omega), Nat.mod_eq_of_lt (by omega)]
theorem R_rot {x : Int} {a : Nat} (h : R x a) {n : Nat} (hn : n < 64) : R (rotL x n) (nrot a n) := by
  have hi := rotL_in (R_in h) (k := n) (by omega)
  obtain ⟨rfl, h⟩ := h
  have e : rotL (a : Int) n = (nrot a n : Int) := by
    unfold rotL nrot
    rw [Int.natCast_add, Int.natCast_emod, Int.natCast_mul, Int.natCast_ediv, Int.natCast_pow, Int.natCast_pow]
    rfl
  rw [e] at hi
  unfold in64 at hi
  exact ⟨e, by omega⟩
theorem R_all : R 18446744073709551615 18446744073709551615 := ⟨rfl, by decide⟩

theorem R_col0 {s : Nat → Int} {a0 : Nat} {a5 : Nat} {a10 : Nat} {a15 : Nat} {a20 : Nat} (h0 : R (s 0) a0) (h5 : R (s 5) a5) (h10 : R (s 10) a10) (h15 : R (s 15) a15) (h20 : R (s 20) a20) : R (sumTo s 25 0) (ncol a0 a5 a10 a15 a20) := by
  have hz := xr_zero (R_in h0)
  have e : sumTo s 25 0 = bits .xor .u64 (bits .xor .u64 (bits .xor .u64 (bits .xor .u64 (s 0) (s 5)) (s 10)) (s 15)) (s 20) := by simp [sumTo, hz]
  rw [e]
  exact R_xor (R_xor (R_xor (R_xor h0 h5) h10) h15) h20
theorem R_col1 {s : Nat → Int} {a1 : Nat} {a6 : Nat} {a11 : Nat} {a16 : Nat} {a21 : Nat} (h1 : R (s 1) a1) (h6 : R (s 6) a6) (h11 : R (s 11) a11) (h16 : R (s 16) a16) (h21 : R (s 21) a21) : R (sumTo s 25 1) (ncol a1 a6 a11 a16 a21) := by
  have hz := xr_zero (R_in h1)
  have e : sumTo s 25 1 = bits .xor .u64 (bits .xor .u64 (bits .xor .u64 (bits .xor .u64 (s 1) (s 6)) (s 11)) (s 16)) (s 21) := by simp [sumTo, hz]
  rw [e]
  exact R_xor (R_xor (R_xor (R_xor h1 h6) h11) h16) h21
theorem R_col2 {s : Nat → Int} {a2 : Nat} {a7 : Nat} {a12 : Nat} {a17 : Nat} {a22 : Nat} (h2 : R (s 2) a2) (h7 : R (s 7) a7) (h12 : R (s 12) a12) (h17 : R (s 17) a17) (h22 : R (s 22) a22) : R (sumTo s 25 2) (ncol a2 a7 a12 a17 a22) := by
  have hz := xr_zero (R_in h2)
  have e : sumTo s 25 2 = bits .xor .u64 (bits .xor .u64 (bits .xor .u64 (bits .xor .u64 (s 2) (s 7)) (s 12)) (s 17)) (s 22) := by simp [sumTo, hz]
  rw [e]
  exact R_xor (R_xor (R_xor (R_xor h2 h7) h12) h17) h22
theorem R_col3 {s : Nat → Int} {a3 : Nat} {a8 : Nat} {a13 : Nat} {a18 : Nat} {a23 : Nat} (h3 : R (s 3) a3) (h8 : R (s 8) a8) (h13 : R (s 13) a13) (h18 : R (s 18) a18) (h23 : R (s 23) a23) : R (sumTo s 25 3) (ncol a3 a8 a13 a18 a23) := by
  have hz := xr_zero (R_in h3)
  have e : sumTo s 25 3 = bits .xor .u64 (bits .xor .u64 (bits .xor .u64 (bits .xor .u64 (s 3) (s 8)) (s 13)) (s 18)) (s 23) := by simp [sumTo, hz]
  rw [e]
  exact R_xor (R_xor (R_xor (R_xor h3 h8) h13) h18) h23
theorem R_col4 {s : Nat → Int} {a4 : Nat} {a9 : Nat} {a14 : Nat} {a19 : Nat} {a24 : Nat} (h4 : R (s 4) a4) (h9 : R (s 9) a9) (h14 : R (s 14) a14) (h19 : R (s 19) a19) (h24 : R (s 24) a24) : R (sumTo s 25 4) (ncol a4 a9 a14 a19 a24) := by
  have hz := xr_zero (R_in h4)
  have e : sumTo s 25 4 = bits .xor .u64 (bits .xor .u64 (bits .xor .u64 (bits .xor .u64 (s 4) (s 9)) (s 14)) (s 19)) (s 24) := by simp [sumTo, hz]
  rw [e]
  exact R_xor (R_xor (R_xor (R_xor h4 h9) h14) h19) h24
theorem mv0 (s : Nat → Int) : kmove (kmix s) 0 = rotL (bits .xor .u64 (s 0) (bits .xor .u64 (sumTo s 25 4) (rotL (sumTo s 25 1) 1))) 0 := rfl
theorem mv1 (s : Nat → Int) : kmove (kmix s) 1 = rotL (bits .xor .u64 (s 6) (bits .xor .u64 (sumTo s 25 0) (rotL (sumTo s 25 2) 1))) 44 := rfl
theorem mv2 (s : Nat → Int) : kmove (kmix s) 2 = rotL (bits .xor .u64 (s 12) (bits .xor .u64 (sumTo s 25 1) (rotL (sumTo s 25 3) 1))) 43 := rfl
theorem mv3 (s : Nat → Int) : kmove (kmix s) 3 = rotL (bits .xor .u64 (s 18) (bits .xor .u64 (sumTo s 25 2) (rotL (sumTo s 25 4) 1))) 21 := rfl
theorem mv4 (s : Nat → Int) : kmove (kmix s) 4 = rotL (bits .xor .u64 (s 24) (bits .xor .u64 (sumTo s 25 3) (rotL (sumTo s 25 0) 1))) 14 := rfl
theorem mv5 (s : Nat → Int) : kmove (kmix s) 5 = rotL (bits .xor .u64 (s 3) (bits .xor .u64 (sumTo s 25 2) (rotL (sumTo s 25 4) 1))) 28 := rfl
theorem mv6 (s : Nat → Int) : kmove (kmix s) 6 = rotL (bits .xor .u64 (s 9) (bits .xor .u64 (sumTo s 25 3) (rotL (sumTo s 25 0) 1))) 20 := rfl
theorem mv7 (s : Nat → Int) : kmove (kmix s) 7 = rotL (bits .xor .u64 (s 10) (bits .xor .u64 (sumTo s 25 4) (rotL (sumTo s 25 1) 1))) 3 := rfl
theorem mv8 (s : Nat → Int) : kmove (kmix s) 8 = rotL (bits .xor .u64 (s 16) (bits .xor .u64 (sumTo s 25 0) (rotL (sumTo s 25 2) 1))) 45 := rfl
theorem mv9 (s : Nat → Int) : kmove (kmix s) 9 = rotL (bits .xor .u64 (s 22) (bits .xor .u64 (sumTo s 25 1) (rotL (sumTo s 25 3) 1))) 61 := rfl
theorem mv10 (s : Nat → Int) : kmove (kmix s) 10 = rotL (bits .xor .u64 (s 1) (bits .xor .u64 (sumTo s 25 0) (rotL (sumTo s 25 2) 1))) 1 := rfl
theorem mv11 (s : Nat → Int) : kmove (kmix s) 11 = rotL (bits .xor .u64 (s 7) (bits .xor .u64 (sumTo s 25 1) (rotL (sumTo s 25 3) 1))) 6 := rfl
theorem mv12 (s : Nat → Int) : kmove (kmix s) 12 = rotL (bits .xor .u64 (s 13) (bits .xor .u64 (sumTo s 25 2) (rotL (sumTo s 25 4) 1))) 25 := rfl
theorem mv13 (s : Nat → Int) : kmove (kmix s) 13 = rotL (bits .xor .u64 (s 19) (bits .xor .u64 (sumTo s 25 3) (rotL (sumTo s 25 0) 1))) 8 := rfl
theorem mv14 (s : Nat → Int) : kmove (kmix s) 14 = rotL (bits .xor .u64 (s 20) (bits .xor .u64 (sumTo s 25 4) (rotL (sumTo s 25 1) 1))) 18 := rfl
theorem mv15 (s : Nat → Int) : kmove (kmix s) 15 = rotL (bits .xor .u64 (s 4) (bits .xor .u64 (sumTo s 25 3) (rotL (sumTo s 25 0) 1))) 27 := rfl
theorem mv16 (s : Nat → Int) : kmove (kmix s) 16 = rotL (bits .xor .u64 (s 5) (bits .xor .u64 (sumTo s 25 4) (rotL (sumTo s 25 1) 1))) 36 := rfl
theorem mv17 (s : Nat → Int) : kmove (kmix s) 17 = rotL (bits .xor .u64 (s 11) (bits .xor .u64 (sumTo s 25 0) (rotL (sumTo s 25 2) 1))) 10 := rfl
theorem mv18 (s : Nat → Int) : kmove (kmix s) 18 = rotL (bits .xor .u64 (s 17) (bits .xor .u64 (sumTo s 25 1) (rotL (sumTo s 25 3) 1))) 15 := rfl
theorem mv19 (s : Nat → Int) : kmove (kmix s) 19 = rotL (bits .xor .u64 (s 23) (bits .xor .u64 (sumTo s 25 2) (rotL (sumTo s 25 4) 1))) 56 := rfl
theorem mv20 (s : Nat → Int) : kmove (kmix s) 20 = rotL (bits .xor .u64 (s 2) (bits .xor .u64 (sumTo s 25 1) (rotL (sumTo s 25 3) 1))) 62 := rfl
theorem mv21 (s : Nat → Int) : kmove (kmix s) 21 = rotL (bits .xor .u64 (s 8) (bits .xor .u64 (sumTo s 25 2) (rotL (sumTo s 25 4) 1))) 55 := rfl
theorem mv22 (s : Nat → Int) : kmove (kmix s) 22 = rotL (bits .xor .u64 (s 14) (bits .xor .u64 (sumTo s 25 3) (rotL (sumTo s 25 0) 1))) 39 := rfl
theorem mv23 (s : Nat → Int) : kmove (kmix s) 23 = rotL (bits .xor .u64 (s 15) (bits .xor .u64 (sumTo s 25 4) (rotL (sumTo s 25 1) 1))) 41 := rfl
theorem mv24 (s : Nat → Int) : kmove (kmix s) 24 = rotL (bits .xor .u64 (s 21) (bits .xor .u64 (sumTo s 25 0) (rotL (sumTo s 25 2) 1))) 2 := rfl
theorem kb0 (v : Nat → Int) : kbend v 0 = bits .xor .u64 (v 0) (bits .and .u64 (bits .xor .u64 18446744073709551615 (v 1)) (v 2)) := by unfold kbend; simp only [Nat.reduceDiv, Nat.reduceMul, Nat.reduceAdd, Nat.reduceMod]
theorem kr0 (s : Nat → Int) (k : Nat) : kround k s 0 = bits .xor .u64 (kbend (kmove (kmix s)) 0) (conN k) := if_pos rfl
theorem kb1 (v : Nat → Int) : kbend v 1 = bits .xor .u64 (v 1) (bits .and .u64 (bits .xor .u64 18446744073709551615 (v 2)) (v 3)) := by unfold kbend; simp only [Nat.reduceDiv, Nat.reduceMul, Nat.reduceAdd, Nat.reduceMod]
theorem kr1 (s : Nat → Int) (k : Nat) : kround k s 1 = kbend (kmove (kmix s)) 1 := if_neg (by decide)
theorem kb2 (v : Nat → Int) : kbend v 2 = bits .xor .u64 (v 2) (bits .and .u64 (bits .xor .u64 18446744073709551615 (v 3)) (v 4)) := by unfold kbend; simp only [Nat.reduceDiv, Nat.reduceMul, Nat.reduceAdd, Nat.reduceMod]
theorem kr2 (s : Nat → Int) (k : Nat) : kround k s 2 = kbend (kmove (kmix s)) 2 := if_neg (by decide)
theorem kb3 (v : Nat → Int) : kbend v 3 = bits .xor .u64 (v 3) (bits .and .u64 (bits .xor .u64 18446744073709551615 (v 4)) (v 0)) := by unfold kbend; simp only [Nat.reduceDiv, Nat.reduceMul, Nat.reduceAdd, Nat.reduceMod]
theorem kr3 (s : Nat → Int) (k : Nat) : kround k s 3 = kbend (kmove (kmix s)) 3 := if_neg (by decide)
theorem kb4 (v : Nat → Int) : kbend v 4 = bits .xor .u64 (v 4) (bits .and .u64 (bits .xor .u64 18446744073709551615 (v 0)) (v 1)) := by unfold kbend; simp only [Nat.reduceDiv, Nat.reduceMul, Nat.reduceAdd, Nat.reduceMod]
theorem kr4 (s : Nat → Int) (k : Nat) : kround k s 4 = kbend (kmove (kmix s)) 4 := if_neg (by decide)
theorem kb5 (v : Nat → Int) : kbend v 5 = bits .xor .u64 (v 5) (bits .and .u64 (bits .xor .u64 18446744073709551615 (v 6)) (v 7)) := by unfold kbend; simp only [Nat.reduceDiv, Nat.reduceMul, Nat.reduceAdd, Nat.reduceMod]
theorem kr5 (s : Nat → Int) (k : Nat) : kround k s 5 = kbend (kmove (kmix s)) 5 := if_neg (by decide)
theorem kb6 (v : Nat → Int) : kbend v 6 = bits .xor .u64 (v 6) (bits .and .u64 (bits .xor .u64 18446744073709551615 (v 7)) (v 8)) := by unfold kbend; simp only [Nat.reduceDiv, Nat.reduceMul, Nat.reduceAdd, Nat.reduceMod]
theorem kr6 (s : Nat → Int) (k : Nat) : kround k s 6 = kbend (kmove (kmix s)) 6 := if_neg (by decide)
theorem kb7 (v : Nat → Int) : kbend v 7 = bits .xor .u64 (v 7) (bits .and .u64 (bits .xor .u64 18446744073709551615 (v 8)) (v 9)) := by unfold kbend; simp only [Nat.reduceDiv, Nat.reduceMul, Nat.reduceAdd, Nat.reduceMod]
theorem kr7 (s : Nat → Int) (k : Nat) : kround k s 7 = kbend (kmove (kmix s)) 7 := if_neg (by decide)
theorem kb8 (v : Nat → Int) : kbend v 8 = bits .xor .u64 (v 8) (bits .and .u64 (bits .xor .u64 18446744073709551615 (v 9)) (v 5)) := by unfold kbend; simp only [Nat.reduceDiv, Nat.reduceMul, Nat.reduceAdd, Nat.reduceMod]
theorem kr8 (s : Nat → Int) (k : Nat) : kround k s 8 = kbend (kmove (kmix s)) 8 := if_neg (by decide)
theorem kb9 (v : Nat → Int) : kbend v 9 = bits .xor .u64 (v 9) (bits .and .u64 (bits .xor .u64 18446744073709551615 (v 5)) (v 6)) := by unfold kbend; simp only [Nat.reduceDiv, Nat.reduceMul, Nat.reduceAdd, Nat.reduceMod]
theorem kr9 (s : Nat → Int) (k : Nat) : kround k s 9 = kbend (kmove (kmix s)) 9 := if_neg (by decide)
theorem kb10 (v : Nat → Int) : kbend v 10 = bits .xor .u64 (v 10) (bits .and .u64 (bits .xor .u64 18446744073709551615 (v 11)) (v 12)) := by unfold kbend; simp only [Nat.reduceDiv, Nat.reduceMul, Nat.reduceAdd, Nat.reduceMod]
theorem kr10 (s : Nat → Int) (k : Nat) : kround k s 10 = kbend (kmove (kmix s)) 10 := if_neg (by decide)
theorem kb11 (v : Nat → Int) : kbend v 11 = bits .xor .u64 (v 11) (bits .and .u64 (bits .xor .u64 18446744073709551615 (v 12)) (v 13)) := by unfold kbend; simp only [Nat.reduceDiv, Nat.reduceMul, Nat.reduceAdd, Nat.reduceMod]
theorem kr11 (s : Nat → Int) (k : Nat) : kround k s 11 = kbend (kmove (kmix s)) 11 := if_neg (by decide)
theorem kb12 (v : Nat → Int) : kbend v 12 = bits .xor .u64 (v 12) (bits .and .u64 (bits .xor .u64 18446744073709551615 (v 13)) (v 14)) := by unfold kbend; simp only [Nat.reduceDiv, Nat.reduceMul, Nat.reduceAdd, Nat.reduceMod]
theorem kr12 (s : Nat → Int) (k : Nat) : kround k s 12 = kbend (kmove (kmix s)) 12 := if_neg (by decide)
theorem kb13 (v : Nat → Int) : kbend v 13 = bits .xor .u64 (v 13) (bits .and .u64 (bits .xor .u64 18446744073709551615 (v 14)) (v 10)) := by unfold kbend; simp only [Nat.reduceDiv, Nat.reduceMul, Nat.reduceAdd, Nat.reduceMod]
theorem kr13 (s : Nat → Int) (k : Nat) : kround k s 13 = kbend (kmove (kmix s)) 13 := if_neg (by decide)
theorem kb14 (v : Nat → Int) : kbend v 14 = bits .xor .u64 (v 14) (bits .and .u64 (bits .xor .u64 18446744073709551615 (v 10)) (v 11)) := by unfold kbend; simp only [Nat.reduceDiv, Nat.reduceMul, Nat.reduceAdd, Nat.reduceMod]
theorem kr14 (s : Nat → Int) (k : Nat) : kround k s 14 = kbend (kmove (kmix s)) 14 := if_neg (by decide)
theorem kb15 (v : Nat → Int) : kbend v 15 = bits .xor .u64 (v 15) (bits .and .u64 (bits .xor .u64 18446744073709551615 (v 16)) (v 17)) := by unfold kbend; simp only [Nat.reduceDiv, Nat.reduceMul, Nat.reduceAdd, Nat.reduceMod]
theorem kr15 (s : Nat → Int) (k : Nat) : kround k s 15 = kbend (kmove (kmix s)) 15 := if_neg (by decide)
theorem kb16 (v : Nat → Int) : kbend v 16 = bits .xor .u64 (v 16) (bits .and .u64 (bits .xor .u64 18446744073709551615 (v 17)) (v 18)) := by unfold kbend; simp only [Nat.reduceDiv, Nat.reduceMul, Nat.reduceAdd, Nat.reduceMod]
theorem kr16 (s : Nat → Int) (k : Nat) : kround k s 16 = kbend (kmove (kmix s)) 16 := if_neg (by decide)
theorem kb17 (v : Nat → Int) : kbend v 17 = bits .xor .u64 (v 17) (bits .and .u64 (bits .xor .u64 18446744073709551615 (v 18)) (v 19)) := by unfold kbend; simp only [Nat.reduceDiv, Nat.reduceMul, Nat.reduceAdd, Nat.reduceMod]
theorem kr17 (s : Nat → Int) (k : Nat) : kround k s 17 = kbend (kmove (kmix s)) 17 := if_neg (by decide)
theorem kb18 (v : Nat → Int) : kbend v 18 = bits .xor .u64 (v 18) (bits .and .u64 (bits .xor .u64 18446744073709551615 (v 19)) (v 15)) := by unfold kbend; simp only [Nat.reduceDiv, Nat.reduceMul, Nat.reduceAdd, Nat.reduceMod]
theorem kr18 (s : Nat → Int) (k : Nat) : kround k s 18 = kbend (kmove (kmix s)) 18 := if_neg (by decide)
theorem kb19 (v : Nat → Int) : kbend v 19 = bits .xor .u64 (v 19) (bits .and .u64 (bits .xor .u64 18446744073709551615 (v 15)) (v 16)) := by unfold kbend; simp only [Nat.reduceDiv, Nat.reduceMul, Nat.reduceAdd, Nat.reduceMod]
theorem kr19 (s : Nat → Int) (k : Nat) : kround k s 19 = kbend (kmove (kmix s)) 19 := if_neg (by decide)
theorem kb20 (v : Nat → Int) : kbend v 20 = bits .xor .u64 (v 20) (bits .and .u64 (bits .xor .u64 18446744073709551615 (v 21)) (v 22)) := by unfold kbend; simp only [Nat.reduceDiv, Nat.reduceMul, Nat.reduceAdd, Nat.reduceMod]
theorem kr20 (s : Nat → Int) (k : Nat) : kround k s 20 = kbend (kmove (kmix s)) 20 := if_neg (by decide)
theorem kb21 (v : Nat → Int) : kbend v 21 = bits .xor .u64 (v 21) (bits .and .u64 (bits .xor .u64 18446744073709551615 (v 22)) (v 23)) := by unfold kbend; simp only [Nat.reduceDiv, Nat.reduceMul, Nat.reduceAdd, Nat.reduceMod]
theorem kr21 (s : Nat → Int) (k : Nat) : kround k s 21 = kbend (kmove (kmix s)) 21 := if_neg (by decide)
theorem kb22 (v : Nat → Int) : kbend v 22 = bits .xor .u64 (v 22) (bits .and .u64 (bits .xor .u64 18446744073709551615 (v 23)) (v 24)) := by unfold kbend; simp only [Nat.reduceDiv, Nat.reduceMul, Nat.reduceAdd, Nat.reduceMod]
theorem kr22 (s : Nat → Int) (k : Nat) : kround k s 22 = kbend (kmove (kmix s)) 22 := if_neg (by decide)
theorem kb23 (v : Nat → Int) : kbend v 23 = bits .xor .u64 (v 23) (bits .and .u64 (bits .xor .u64 18446744073709551615 (v 24)) (v 20)) := by unfold kbend; simp only [Nat.reduceDiv, Nat.reduceMul, Nat.reduceAdd, Nat.reduceMod]
theorem kr23 (s : Nat → Int) (k : Nat) : kround k s 23 = kbend (kmove (kmix s)) 23 := if_neg (by decide)
theorem kb24 (v : Nat → Int) : kbend v 24 = bits .xor .u64 (v 24) (bits .and .u64 (bits .xor .u64 18446744073709551615 (v 20)) (v 21)) := by unfold kbend; simp only [Nat.reduceDiv, Nat.reduceMul, Nat.reduceAdd, Nat.reduceMod]
theorem kr24 (s : Nat → Int) (k : Nat) : kround k s 24 = kbend (kmove (kmix s)) 24 := if_neg (by decide)
/-- Lane by lane. -/
def Rs (s : Nat → Int) (S : St) : Prop := ∀ i, i < 25 → R (s i) (S.get i)
theorem Rs_force {s : Nat → Int} {n : Nat} {f : Nat → St} {x : Int} (hx : R x n) (h : ∀ y, R x y → Rs s (f y)) : Rs s (force n f) := by
  rw [force_eq]
  exact h n hx

set_option maxRecDepth 100000 in
set_option maxHeartbeats 4000000 in
theorem Rs_round {s : Nat → Int} {S : St} (h : Rs s S) (k : Nat) (rc : Nat) (hrc : R (conN k) rc) : Rs (kround k s) (nround rc S) := by
  obtain ⟨a0, a1, a2, a3, a4, a5, a6, a7, a8, a9, a10, a11, a12, a13, a14, a15, a16, a17, a18, a19, a20, a21, a22, a23, a24⟩ := S
  unfold nround
  have h0 : R (s 0) a0 := h 0 (by omega)
  have h1 : R (s 1) a1 := h 1 (by omega)
  have h2 : R (s 2) a2 := h 2 (by omega)
  have h3 : R (s 3) a3 := h 3 (by omega)
  have h4 : R (s 4) a4 := h 4 (by omega)
  have h5 : R (s 5) a5 := h 5 (by omega)
  have h6 : R (s 6) a6 := h 6 (by omega)
  have h7 : R (s 7) a7 := h 7 (by omega)
  have h8 : R (s 8) a8 := h 8 (by omega)
  have h9 : R (s 9) a9 := h 9 (by omega)
  have h10 : R (s 10) a10 := h 10 (by omega)
  have h11 : R (s 11) a11 := h 11 (by omega)
  have h12 : R (s 12) a12 := h 12 (by omega)
  have h13 : R (s 13) a13 := h 13 (by omega)
  have h14 : R (s 14) a14 := h 14 (by omega)
  have h15 : R (s 15) a15 := h 15 (by omega)
  have h16 : R (s 16) a16 := h 16 (by omega)
  have h17 : R (s 17) a17 := h 17 (by omega)
  have h18 : R (s 18) a18 := h 18 (by omega)
  have h19 : R (s 19) a19 := h 19 (by omega)
  have h20 : R (s 20) a20 := h 20 (by omega)
  have h21 : R (s 21) a21 := h 21 (by omega)
  have h22 : R (s 22) a22 := h 22 (by omega)
  have h23 : R (s 23) a23 := h 23 (by omega)
  have h24 : R (s 24) a24 := h 24 (by omega)
  clear h
  refine Rs_force (R_col0 (s := s) h0 h5 h10 h15 h20) fun y0 c0 => ?_
  refine Rs_force (R_col1 (s := s) h1 h6 h11 h16 h21) fun y1 c1 => ?_
  refine Rs_force (R_col2 (s := s) h2 h7 h12 h17 h22) fun y2 c2 => ?_
  refine Rs_force (R_col3 (s := s) h3 h8 h13 h18 h23) fun y3 c3 => ?_
  refine Rs_force (R_col4 (s := s) h4 h9 h14 h19 h24) fun y4 c4 => ?_
  refine Rs_force (R_xor c4 (R_rot c1 (n := 1) (by omega))) fun z0 d0 => ?_
  refine Rs_force (R_xor c0 (R_rot c2 (n := 1) (by omega))) fun z1 d1 => ?_
  refine Rs_force (R_xor c1 (R_rot c3 (n := 1) (by omega))) fun z2 d2 => ?_
  refine Rs_force (R_xor c2 (R_rot c4 (n := 1) (by omega))) fun z3 d3 => ?_
  refine Rs_force (R_xor c3 (R_rot c0 (n := 1) (by omega))) fun z4 d4 => ?_
  clear c0 c1 c2 c3 c4
  refine Rs_force (x := kmove (kmix s) 0) (by rw [mv0]; exact R_rot (R_xor h0 d0) (n := 0) (by omega)) fun u0 v0 => ?_
  refine Rs_force (x := kmove (kmix s) 1) (by rw [mv1]; exact R_rot (R_xor h6 d1) (n := 44) (by omega)) fun u1 v1 => ?_
  refine Rs_force (x := kmove (kmix s) 2) (by rw [mv2]; exact R_rot (R_xor h12 d2) (n := 43) (by omega)) fun u2 v2 => ?_
  refine Rs_force (x := kmove (kmix s) 3) (by rw [mv3]; exact R_rot (R_xor h18 d3) (n := 21) (by omega)) fun u3 v3 => ?_
  refine Rs_force (x := kmove (kmix s) 4) (by rw [mv4]; exact R_rot (R_xor h24 d4) (n := 14) (by omega)) fun u4 v4 => ?_
  refine Rs_force (x := kmove (kmix s) 5) (by rw [mv5]; exact R_rot (R_xor h3 d3) (n := 28) (by omega)) fun u5 v5 => ?_
  refine Rs_force (x := kmove (kmix s) 6) (by rw [mv6]; exact R_rot (R_xor h9 d4) (n := 20) (by omega)) fun u6 v6 => ?_
  refine Rs_force (x := kmove (kmix s) 7) (by rw [mv7]; exact R_rot (R_xor h10 d0) (n := 3) (by omega)) fun u7 v7 => ?_
  refine Rs_force (x := kmove (kmix s) 8) (by rw [mv8]; exact R_rot (R_xor h16 d1) (n := 45) (by omega)) fun u8 v8 => ?_
  refine Rs_force (x := kmove (kmix s) 9) (by rw [mv9]; exact R_rot (R_xor h22 d2) (n := 61) (by omega)) fun u9 v9 => ?_
  refine Rs_force (x := kmove (kmix s) 10) (by rw [mv10]; exact R_rot (R_xor h1 d1) (n := 1) (by omega)) fun u10 v10 => ?_
  refine Rs_force (x := kmove (kmix s) 11) (by rw [mv11]; exact R_rot (R_xor h7 d2) (n := 6) (by omega)) fun u11 v11 => ?_
  refine Rs_force (x := kmove (kmix s) 12) (by rw [mv12]; exact R_rot (R_xor h13 d3) (n := 25) (by omega)) fun u12 v12 => ?_
  refine Rs_force (x := kmove (kmix s) 13) (by rw [mv13]; exact R_rot (R_xor h19 d4) (n := 8) (by omega)) fun u13 v13 => ?_
  refine Rs_force (x := kmove (kmix s) 14) (by rw [mv14]; exact R_rot (R_xor h20 d0) (n := 18) (by omega)) fun u14 v14 => ?_
  refine Rs_force (x := kmove (kmix s) 15) (by rw [mv15]; exact R_rot (R_xor h4 d4) (n := 27) (by omega)) fun u15 v15 => ?_
  refine Rs_force (x := kmove (kmix s) 16) (by rw [mv16]; exact R_rot (R_xor h5 d0) (n := 36) (by omega)) fun u16 v16 => ?_
  refine Rs_force (x := kmove (kmix s) 17) (by rw [mv17]; exact R_rot (R_xor h11 d1) (n := 10) (by omega)) fun u17 v17 => ?_
  refine Rs_force (x := kmove (kmix s) 18) (by rw [mv18]; exact R_rot (R_xor h17 d2) (n := 15) (by omega)) fun u18 v18 => ?_
  refine Rs_force (x := kmove (kmix s) 19) (by rw [mv19]; exact R_rot (R_xor h23 d3) (n := 56) (by omega)) fun u19 v19 => ?_
  refine Rs_force (x := kmove (kmix s) 20) (by rw [mv20]; exact R_rot (R_xor h2 d2) (n := 62) (by omega)) fun u20 v20 => ?_
  refine Rs_force (x := kmove (kmix s) 21) (by rw [mv21]; exact R_rot (R_xor h8 d3) (n := 55) (by omega)) fun u21 v21 => ?_
  refine Rs_force (x := kmove (kmix s) 22) (by rw [mv22]; exact R_rot (R_xor h14 d4) (n := 39) (by omega)) fun u22 v22 => ?_
  refine Rs_force (x := kmove (kmix s) 23) (by rw [mv23]; exact R_rot (R_xor h15 d0) (n := 41) (by omega)) fun u23 v23 => ?_
  refine Rs_force (x := kmove (kmix s) 24) (by rw [mv24]; exact R_rot (R_xor h21 d1) (n := 2) (by omega)) fun u24 v24 => ?_
  clear h0 h1 h2 h3 h4 h5 h6 h7 h8 h9 h10 h11 h12 h13 h14 h15 h16 h17 h18 h19 h20 h21 h22 h23 h24 d0 d1 d2 d3 d4
  refine Rs_force (x := kround k s 0) (by rw [kr0, kb0]; exact R_xor (R_xor v0 (R_and (R_xor R_all v1) v2)) hrc) fun o0 w0 => ?_
  refine Rs_force (x := kround k s 1) (by rw [kr1, kb1]; exact R_xor v1 (R_and (R_xor R_all v2) v3)) fun o1 w1 => ?_
  refine Rs_force (x := kround k s 2) (by rw [kr2, kb2]; exact R_xor v2 (R_and (R_xor R_all v3) v4)) fun o2 w2 => ?_
  refine Rs_force (x := kround k s 3) (by rw [kr3, kb3]; exact R_xor v3 (R_and (R_xor R_all v4) v0)) fun o3 w3 => ?_
  refine Rs_force (x := kround k s 4) (by rw [kr4, kb4]; exact R_xor v4 (R_and (R_xor R_all v0) v1)) fun o4 w4 => ?_
  refine Rs_force (x := kround k s 5) (by rw [kr5, kb5]; exact R_xor v5 (R_and (R_xor R_all v6) v7)) fun o5 w5 => ?_
  refine Rs_force (x := kround k s 6) (by rw [kr6, kb6]; exact R_xor v6 (R_and (R_xor R_all v7) v8)) fun o6 w6 => ?_
  refine Rs_force (x := kround k s 7) (by rw [kr7, kb7]; exact R_xor v7 (R_and (R_xor R_all v8) v9)) fun o7 w7 => ?_
  refine Rs_force (x := kround k s 8) (by rw [kr8, kb8]; exact R_xor v8 (R_and (R_xor R_all v9) v5)) fun o8 w8 => ?_
  refine Rs_force (x := kround k s 9) (by rw [kr9, kb9]; exact R_xor v9 (R_and (R_xor R_all v5) v6)) fun o9 w9 => ?_
  refine Rs_force (x := kround k s 10) (by rw [kr10, kb10]; exact R_xor v10 (R_and (R_xor R_all v11) v12)) fun o10 w10 => ?_
  refine Rs_force (x := kround k s 11) (by rw [kr11, kb11]; exact R_xor v11 (R_and (R_xor R_all v12) v13)) fun o11 w11 => ?_
  refine Rs_force (x := kround k s 12) (by rw [kr12, kb12]; exact R_xor v12 (R_and (R_xor R_all v13) v14)) fun o12 w12 => ?_
  refine Rs_force (x := kround k s 13) (by rw [kr13, kb13]; exact R_xor v13 (R_and (R_xor R_all v14) v10)) fun o13 w13 => ?_
  refine Rs_force (x := kround k s 14) (by rw [kr14, kb14]; exact R_xor v14 (R_and (R_xor R_all v10) v11)) fun o14 w14 => ?_
  refine Rs_force (x := kround k s 15) (by rw [kr15, kb15]; exact R_xor v15 (R_and (R_xor R_all v16) v17)) fun o15 w15 => ?_
  refine Rs_force (x := kround k s 16) (by rw [kr16, kb16]; exact R_xor v16 (R_and (R_xor R_all v17) v18)) fun o16 w16 => ?_
  refine Rs_force (x := kround k s 17) (by rw [kr17, kb17]; exact R_xor v17 (R_and (R_xor R_all v18) v19)) fun o17 w17 => ?_
  refine Rs_force (x := kround k s 18) (by rw [kr18, kb18]; exact R_xor v18 (R_and (R_xor R_all v19) v15)) fun o18 w18 => ?_
  refine Rs_force (x := kround k s 19) (by rw [kr19, kb19]; exact R_xor v19 (R_and (R_xor R_all v15) v16)) fun o19 w19 => ?_
  refine Rs_force (x := kround k s 20) (by rw [kr20, kb20]; exact R_xor v20 (R_and (R_xor R_all v21) v22)) fun o20 w20 => ?_
  refine Rs_force (x := kround k s 21) (by rw [kr21, kb21]; exact R_xor v21 (R_and (R_xor R_all v22) v23)) fun o21 w21 => ?_
  refine Rs_force (x := kround k s 22) (by rw [kr22, kb22]; exact R_xor v22 (R_and (R_xor R_all v23) v24)) fun o22 w22 => ?_
  refine Rs_force (x := kround k s 23) (by rw [kr23, kb23]; exact R_xor v23 (R_and (R_xor R_all v24) v20)) fun o23 w23 => ?_
  refine Rs_force (x := kround k s 24) (by rw [kr24, kb24]; exact R_xor v24 (R_and (R_xor R_all v20) v21)) fun o24 w24 => ?_
  clear v0 v1 v2 v3 v4 v5 v6 v7 v8 v9 v10 v11 v12 v13 v14 v15 v16 v17 v18 v19 v20 v21 v22 v23 v24
  intro i hi
  rcases (by omega : i = 0 ∨ i = 1 ∨ i = 2 ∨ i = 3 ∨ i = 4 ∨ i = 5 ∨ i = 6 ∨ i = 7 ∨ i = 8 ∨ i = 9 ∨ i = 10 ∨ i = 11 ∨ i = 12 ∨ i = 13 ∨ i = 14 ∨ i = 15 ∨ i = 16 ∨ i = 17 ∨ i = 18 ∨ i = 19 ∨ i = 20 ∨ i = 21 ∨ i = 22 ∨ i = 23 ∨ i = 24) with rfl | rfl | rfl | rfl | rfl | rfl | rfl | rfl | rfl | rfl | rfl | rfl | rfl | rfl | rfl | rfl | rfl | rfl | rfl | rfl | rfl | rfl | rfl | rfl | rfl
  · exact w0
  · exact w1
  · exact w2
  · exact w3
  · exact w4
  · exact w5
  · exact w6
  · exact w7
  · exact w8
  · exact w9
  · exact w10
  · exact w11
  · exact w12
  · exact w13
  · exact w14
  · exact w15
  · exact w16
  · exact w17
  · exact w18
  · exact w19
  · exact w20
  · exact w21
  · exact w22
  · exact w23
  · exact w24
theorem R_con : ∀ k, k < 12 → R (conN k) ([2147516555, 9223372036854775947, 9223372036854808713, 9223372036854808579, 9223372036854808578, 9223372036854775936, 32778, 9223372039002259466, 9223372039002292353, 9223372036854808704, 2147483649, 9223372039002292232].getD k 0) := by
  intro k hk
  rcases (by omega : k = 0 ∨ k = 1 ∨ k = 2 ∨ k = 3 ∨ k = 4 ∨ k = 5 ∨ k = 6 ∨ k = 7 ∨ k = 8 ∨ k = 9 ∨ k = 10 ∨ k = 11) with rfl | rfl | rfl | rfl | rfl | rfl | rfl | rfl | rfl | rfl | rfl | rfl <;> exact ⟨rfl, by decide⟩
theorem Rs_perm {s : Nat → Int} {S : St} (h : Rs s S) : Rs (kperm 12 s) (nperm S) :=
  Rs_round (Rs_round (Rs_round (Rs_round (Rs_round (Rs_round (Rs_round (Rs_round (Rs_round (Rs_round (Rs_round (Rs_round (h) 0 2147516555 (R_con 0 (by omega))) 1 9223372036854775947 (R_con 1 (by omega))) 2 9223372036854808713 (R_con 2 (by omega))) 3 9223372036854808579 (R_con 3 (by omega))) 4 9223372036854808578 (R_con 4 (by omega))) 5 9223372036854775936 (R_con 5 (by omega))) 6 32778 (R_con 6 (by omega))) 7 9223372039002259466 (R_con 7 (by omega))) 8 9223372039002292353 (R_con 8 (by omega))) 9 9223372036854808704 (R_con 9 (by omega))) 10 2147483649 (R_con 10 (by omega))) 11 9223372039002292232 (R_con 11 (by omega))
/-- Nothing but noughts. -/
def nought : St := ⟨0, 0, 0, 0, 0, 0, 0, 0, 0, 0, 0, 0, 0, 0, 0, 0, 0, 0, 0, 0, 0, 0, 0, 0, 0⟩
theorem Rs_nought : Rs (fun _ => 0) nought := by
  intro i hi
  have e : nought.get i = 0 := by
    unfold St.get nought St.list
    rcases (by omega : i = 0 ∨ i = 1 ∨ i = 2 ∨ i = 3 ∨ i = 4 ∨ i = 5 ∨ i = 6 ∨ i = 7 ∨ i = 8 ∨ i = 9 ∨ i = 10 ∨ i = 11 ∨ i = 12 ∨ i = 13 ∨ i = 14 ∨ i = 15 ∨ i = 16 ∨ i = 17 ∨ i = 18 ∨ i = 19 ∨ i = 20 ∨ i = 21 ∨ i = 22 ∨ i = 23 ∨ i = 24) with rfl | rfl | rfl | rfl | rfl | rfl | rfl | rfl | rfl | rfl | rfl | rfl | rfl | rfl | rfl | rfl | rfl | rfl | rfl | rfl | rfl | rfl | rfl | rfl | rfl <;> rfl
  rw [e]
  exact ⟨rfl, by decide⟩
theorem nought_wakes : ((nperm nought).get 0 == 0) = false := by kernel_rfl
/-- The permuted noughts are no noughts. -/
theorem kperm_nought : kperm 12 (fun _ => 0) 0 ≠ 0 := by
  intro h
  have h1 := (Rs_perm Rs_nought) 0 (by omega)
  have h2 := h1.1
  rw [h] at h2
  have h3 := nought_wakes
  have h4 : (nperm nought).get 0 = 0 := by omega
  rw [h4] at h3
  cases h3
end Go.Proofs.Ytnajihlhcdedgaa

namespace Go.Proofs.Ytnajihlhcdedgaa
open Go.RowKit
set_option linter.unusedVariables false
set_option linter.unusedSimpArgs false

section
variable {P : Program} {ops : Array Oper} {rest : List Oper} {o : Oper} {a : Act} {w : World} {Q : Exit → Act → World → Prop}
/-- The first cells of a block are read whole, under a guard that holds. -/
theorem wpList_load_part_g (ty : TypeId) (x : Operand) {g : Nat} {t : TypeId} {n m k : Nat} {e : TypeId} {f : Nat → Value} (B : Blk w g t (rowF n f)) (hm : m ≤ n) (hu : P.underlying ty = some (.array k e)) (hi : (P.info? ty).map (·.size) = some m)
    (hw : Region.wanted o (yielded ops a.tmps) = true) (ho : o.op = .load ty x) (hx : a.eval x = .pointer (some ⟨g, 0, none⟩))
    (h : wpList P ops Q rest (a.put o.dst (.agg (rowF m f))) w) : wpList P ops Q (o :: rest) a w := by
  refine wpList_step fun K hK => ?_
  rw [if_pos hw]
  unfold Oper.wp execOp
  simp only [ho, hx, Instr.loadAt, Instr.sureAddr, Sem.run_bind, Sem.run_pure, Result.andThen_ok, run_loadVar_part w g t ty f B hm hu hi]
  exact hK _ _ h
end
theorem rowF_ints (n : Nat) (s : Nat → Int) : rowF n (fun p => Value.int .u64 (s p)) = (((List.range n).map s).map (Value.int .u64)).toArray := by
  unfold rowF
  rw [List.map_map]
  rfl
theorem run_equalS {t : TypeId} {n : Nat} (hu : Try.prog.underlying t = some (.array n 22)) (s u : Nat → Int) (w : World) : (Op.equalIn 10000 t (.agg (rowF n (fun p => .int .u64 (s p)))) (.agg (rowF n (fun p => .int .u64 (u p))))).run Try.prog w = .ok (decide ((List.range n).map s = (List.range n).map u)) w := by
  obtain ⟨i, hi⟩ := info22
  rw [rowF_ints, rowF_ints]
  rw [show (10000 : Nat) = 9998 + 2 from rfl, run_equalIn_array w (9998 + 1) _ _ hu hi, List.range_eq_range', run_eqItems_ints w 9998 Try.underlying22 cells22 _ _ (by simp) n 0 (by simp)]
  simp
theorem awake_eq (w : World) : (Op.equalIn 10000 61 (.agg (rowF 25 (fun p => .int .u64 (kperm 12 (fun _ => 0) p)))) (.agg #[.int .u64 0, .int .u64 0, .int .u64 0, .int .u64 0, .int .u64 0, .int .u64 0, .int .u64 0, .int .u64 0, .int .u64 0, .int .u64 0, .int .u64 0, .int .u64 0, .int .u64 0, .int .u64 0, .int .u64 0, .int .u64 0, .int .u64 0, .int .u64 0, .int .u64 0, .int .u64 0, .int .u64 0, .int .u64 0, .int .u64 0, .int .u64 0, .int .u64 0])).run Try.prog w = .ok false w := by
  have h := run_equalS Try.underlying61 (kperm 12 (fun _ => 0)) (fun _ => 0) w
  have h0 : ¬ (List.range 25).map (kperm 12 (fun _ => 0)) = (List.range 25).map (fun _ => (0 : Int)) := fun h => by
    have h2 := congrArg (·[0]?) h
    simp at h2
    exact kperm_nought h2
  rw [decide_eq_false h0] at h
  exact h

set_option maxRecDepth 100000 in
set_option maxHeartbeats 4000000 in
theorem k_Awake : Pure Try.prog 60 #[] (.bool true) := fun w => by
  have hz := awake_eq
  obtain ⟨z, HZ0⟩ : ∃ z, kperm 12 (fun _ => 0) = z := ⟨_, rfl⟩
  rw [HZ0] at hz
  have HZ : Hid (∀ p, z p = kperm 12 (fun _ => 0) p) := Lib.hid fun p => by rw [HZ0]
  clear HZ0
  obtain ⟨g, hg⟩ : ∃ g, w.heap.size = g := ⟨_, rfl⟩
  go_enter Try.func60, Try.ntmps60
  go_wp2_with fail
  try simp only [hg]
  refine abs_calls (fun W => Kept w W ∧ Blk W g 61 (rowF 25 (lanes (fun _ => 0) (fun _ => undef)))) ⟨(Kept.refl w).alloc _, by rw [← hg]; exact Blk.new _ _ _⟩ ?_
  rintro W1 ⟨k1, B1⟩
  refine (k_permute _ g 25 61 _ _ (by omega) B1).mono ?_
  rintro e W2 ⟨rfl, k2, B2⟩
  have k3 := k2.kept k1 (by omega)
  rw [lanes_row] at B2
  have B3 : Blk W2 g 61 (rowF 25 (fun p => .int .u64 (z p))) := by rw [rowF_congr fun i _ => congrArg (Value.int .u64) (HZ.out i).symm] at B2; exact B2
  clear k1 k2 B1 B2
  go_wp2_with fail
  refine (k_Hash _ 1 (by omega) (by omega) none 0 0 0 (fun _ => 0) (by omega) (SlB.nil _ _ _) (Nat.zero_le _) 0 (by omega)).mono ?_
  rintro e W4 ⟨v, rfl, k4, hown⟩
  obtain ⟨va, vc, rfl⟩ := ownsRow_slice1 hown
  have k5 := k3.trans k4
  have B5 := B3.kept k4
  clear k3 k4 B3 hown
  go_wp2_with fail
  refine (k_Hash _ 1 (by omega) (by omega) none 0 0 0 (fun _ => 0) (by omega) (SlB.nil _ _ _) (Nat.zero_le _) 3 (by omega)).mono ?_
  rintro e W6 ⟨v, rfl, k6, hown⟩
  obtain ⟨va2, vc2, rfl⟩ := ownsRow_slice1 hown
  have k7 := k5.trans k6
  have B7 := B5.kept k6
  clear k5 k6 B5 hown
  go_wp2_with (refine wpList_load_part_g 61 (.tmp 1) B7 (Nat.le_refl _) Try.underlying61 size61 rfl rfl rfl ?_)
  go_ret
  exact ⟨rfl, k7⟩
end Go.Proofs.Ytnajihlhcdedgaa
