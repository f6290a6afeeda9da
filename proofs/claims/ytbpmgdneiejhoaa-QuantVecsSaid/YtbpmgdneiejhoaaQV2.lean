/-
  QuantVecs: the walk.
-/
import Derived.Test.YtbpmgdneiejhoaaQV1
import Derived.Test.YtbpmgdneiejhoaaMark2
import Derived.Deep.Cut
namespace Go.Proofs.Ytbpmgdneiejhoaa
open Go.RowKit
set_option linter.unusedVariables false
set_option linter.unusedSimpArgs false
attribute [local go_sem] run_store_float
attribute [local simp] blkAt_setCell blkAt_alloc blkAt_drew Obj.put_cells

set_option maxRecDepth 100000 in
set_option maxHeartbeats 8000000 in
theorem quant_Ref (low step : Nat) (steps : Int) : Pure Try.prog 10 #[.agg #[.float .f64 low, .float .f64 step, .int .u32 steps]] (.agg #[.float .f64 low, .float .f64 step, .int .u32 steps]) := fun w => by
  go_enter Try.func10, Try.ntmps10
  go_wp2_with fail
  refine bodyPost_ret (v := .agg #[.float .f64 low, .float .f64 step, .int .u32 steps]) (by simp [results, Try.results10, go_sem]) rfl ⟨rfl, ?_⟩
  exact ((Kept.refl w).alloc _).alloc _

theorem first_bad (cc : Nat → Int) : ∀ n, Hid (∀ j, j < n → (cc j != 0) = false) ∨ ∃ k, k < n ∧ Hid (∀ j, j < k → (cc j != 0) = false) ∧ Hid ((cc k != 0) = true)
  | 0 => .inl fun j hj => absurd hj (Nat.not_lt_zero _)
  | n + 1 => by
    rcases first_bad cc n with h | ⟨k, h1, h2, h3⟩
    · cases hc : cc n != 0 with
      | true => exact .inr ⟨n, Nat.lt_succ_self _, h, hc⟩
      | false =>
        left
        intro j hj
        rcases Nat.lt_or_ge j n with g | g
        · exact h.out j g
        · obtain rfl : j = n := by omega
          exact hc
    · exact .inr ⟨k, by omega, h2, h3⟩

/-- A slice of the law's reads as the numbers f 0, .. -/
structure SlU (w : World) (a : Option Addr) (n cap : Nat) (f : Nat → Int) : Prop where
  at' : ∀ j, j < n → ∃ p, (∀ w', (Instr.indexAt 33 (.slice a n cap) (.int .i64 (j : Int))).run Try.prog w' = .ok (.pointer (some p)) w') ∧ w.cell? p = some (.int .u32 (f j))
theorem SlU.kept {w w' : World} {a : Option Addr} {n cap : Nat} {f : Nat → Int} (h : SlU w a n cap f) (hk : Kept w w') : SlU w' a n cap f :=
  ⟨fun j hj => let ⟨p, h1, h2⟩ := h.at' j hj; ⟨p, h1, hk.cell h2⟩⟩
theorem run_index_at {t e : TypeId} {ad : Addr} {n cap j : Nat} (ht : Try.prog.underlying t = some (.slice e)) (he : (Try.prog.info? e).map (fun i => i.size) = some 1) (hj : j < n) (w : World) :
    (Instr.indexAt t (.slice (some ad) n cap) (.int .i64 (j : Int))).run Try.prog w = .ok (.pointer (some (ad.add j))) w := by
  cases hq : Try.prog.info? e with
  | none => simp [hq] at he
  | some i =>
    have hs : i.size = 1 := by simpa [hq] using he
    have h1 : (0 : Int) ≤ (j : Int) := by omega
    have h2 : (j : Int) < (n : Int) := by omega
    simp [Instr.indexAt, run_underlying ht, asIntOf, sizeOf, typeInfo, hq, hs, hj]
theorem size23 : (Try.prog.info? 23).map (fun i => i.size) = some 1 := by kernel_rfl
theorem slU_of_own {w : World} {base n : Nat} {v : Value} {f : Nat → Int} (h : w.ownsRow base 23 1 v n ((List.range n).map fun j => Value.int .u32 (f j))) (hn : n ≤ 64) : ∃ a cap, v = .slice a n cap ∧ SlU w a n cap f := by
  rcases h.2 with ⟨rfl, rfl⟩ | ⟨g, cap, cur, rfl, hb, hg, hc, _, hs, ht⟩
  · exact ⟨none, 0, rfl, ⟨fun j hj => absurd hj (Nat.not_lt_zero _)⟩⟩
  · refine ⟨_, cap, rfl, ⟨fun j hj => ⟨_, fun w' => run_index_at Try.underlying33 size23 hj w', ?_⟩⟩⟩
    refine h.cells (g := g) rfl j _ ?_
    simp [hj]

set_option maxRecDepth 100000 in
set_option maxHeartbeats 8000000 in
theorem quant_vecs_raw (low0 step0 low1 step1 : Nat) (steps0 steps1 l s k : Int) (a : Option Addr) (n cap : Nat) (X : Nat → Nat) (vf cf : Nat → Nat → Int) (w : World) (hn : (n : Int) ≤ 100) (hS : SlF w a n cap X)
    (hA : Pure Try.prog 7 #[] (.bool true)) (hS' : Pure Try.prog 8 #[.agg #[.int .i16 l, .int .i16 s, .int .i16 k]] (.agg #[.float .f64 low1, .float .f64 step1, .int .u32 steps1]))
    (HW0 : Hid (∀ j, j < n → Pure Try.prog 13 #[.agg #[.float .f64 low0, .float .f64 step0, .int .u32 steps0], .float .f64 (X j)] (.tuple #[.int .u32 (vf 0 j), .int .i64 (cf 0 j)])))
    (HW1 : Hid (∀ j, j < n → Pure Try.prog 13 #[.agg #[.float .f64 low1, .float .f64 step1, .int .u32 steps1], .float .f64 (X j)] (.tuple #[.int .u32 (vf 1 j), .int .i64 (cf 1 j)])))
    (HR0 : Hid (∀ j, j < n → Pure Try.prog 11 #[.agg #[.float .f64 low0, .float .f64 step0, .int .u32 steps0], .float .f64 (X j)] (.tuple #[.int .u32 (vf 0 j), .int .i64 (cf 0 j)])))
    (HR1 : Hid (∀ j, j < n → Pure Try.prog 11 #[.agg #[.float .f64 low1, .float .f64 step1, .int .u32 steps1], .float .f64 (X j)] (.tuple #[.int .u32 (vf 1 j), .int .i64 (cf 1 j)]))) :
    Calls Try.prog 3 #[.agg #[.float .f64 low0, .float .f64 step0, .int .u32 steps0], .agg #[.int .i16 l, .int .i16 s, .int .i16 k], .slice a n cap] w fun e w' => e = .returned (.bool true) ∧ Kept w w' := by
  let mn : Mean := ⟨fun v w' => ∃ g, v = .slice (some ⟨g, 0, none⟩) 2 2 ∧ Blk w' g 25 #[.float .f64 low0, .float .f64 step0, .int .u32 steps0, .float .f64 low1, .float .f64 step1, .int .u32 steps1], fun v w w' h hk => let ⟨g, h1, h2⟩ := h; ⟨g, h1, h2.kept hk⟩, fun b w h => by obtain ⟨_, h, _⟩ := h; cases h⟩
  have HA := Lib.hid hA
  have HF := Lib.hid quant_Ref
  have HS := Lib.hid hS'
  clear hA hS'
  go_enter Try.func3, Try.ntmps3
  go_wp2_with fail
  refine abs_calls (fun W => Kept w W ∧ Blk W (w.heap.size) 25 #[Value.float .f64 low0, Value.float .f64 step0, Value.int .u32 steps0] ∧ Blk W (w.heap.size + 1) 28 #[.int .i16 l, .int .i16 s, .int .i16 k]) ?_ ?_
  · refine ⟨?_, ?_, ?_⟩
    · repeat (first | exact Kept.refl _ | (refine Kept.setCell ?_ (kept_side (by first | assumption | omega)) _) | apply Kept.alloc | apply Kept.drew)
    · simp [Blk, *] <;> (intros; omega)
    · simp [Blk, *] <;> (intros; omega)
  rintro W1 ⟨kW1, BW1_0, BW1_1⟩
  have cW1_0_0 : W1.cell? ⟨w.heap.size, 0, none⟩ = some (Value.float .f64 low0) := BW1_0.cell 0 rfl
  have cW1_0_1 : W1.cell? ⟨w.heap.size, 1, none⟩ = some (Value.float .f64 step0) := BW1_0.cell 1 rfl
  have cW1_0_2 : W1.cell? ⟨w.heap.size, 2, none⟩ = some (Value.int .u32 steps0) := BW1_0.cell 2 rfl
  have fW1_0 := BW1_0.free
  have cW1_1_0 : W1.cell? ⟨w.heap.size + 1, 0, none⟩ = some (.int .i16 l) := BW1_1.cell 0 rfl
  have cW1_1_1 : W1.cell? ⟨w.heap.size + 1, 1, none⟩ = some (.int .i16 s) := BW1_1.cell 1 rfl
  have cW1_1_2 : W1.cell? ⟨w.heap.size + 1, 2, none⟩ = some (.int .i16 k) := BW1_1.cell 2 rfl
  have fW1_1 := BW1_1.free
  refine (HA.out _).mono ?_
  rintro e W2 ⟨rfl, hkW2⟩
  have kW2 := kW1.trans hkW2
  have BW2_0 := BW1_0.kept hkW2
  have BW2_1 := BW1_1.kept hkW2
  clear cW1_0_0 cW1_0_1 cW1_0_2 cW1_1_0 cW1_1_1 cW1_1_2 fW1_0 fW1_1 BW1_0 BW1_1 kW1 hkW2
  have cW2_0_0 : W2.cell? ⟨w.heap.size, 0, none⟩ = some (Value.float .f64 low0) := BW2_0.cell 0 rfl
  have cW2_0_1 : W2.cell? ⟨w.heap.size, 1, none⟩ = some (Value.float .f64 step0) := BW2_0.cell 1 rfl
  have cW2_0_2 : W2.cell? ⟨w.heap.size, 2, none⟩ = some (Value.int .u32 steps0) := BW2_0.cell 2 rfl
  have fW2_0 := BW2_0.free
  have cW2_1_0 : W2.cell? ⟨w.heap.size + 1, 0, none⟩ = some (.int .i16 l) := BW2_1.cell 0 rfl
  have cW2_1_1 : W2.cell? ⟨w.heap.size + 1, 1, none⟩ = some (.int .i16 s) := BW2_1.cell 1 rfl
  have cW2_1_2 : W2.cell? ⟨w.heap.size + 1, 2, none⟩ = some (.int .i16 k) := BW2_1.cell 2 rfl
  have fW2_1 := BW2_1.free
  go_wp2_with fail
  refine wp_region_marks (fun _ => mn) 6 (by kernel_rfl) (by kernel_rfl) rfl ?_
  simp only [List.take_succ_cons, List.take_zero, List.drop_succ_cons, List.drop_zero]
  refine marks_ex rfl rfl (by kernel_rfl) ?_; apply Exists.intro; refine And.intro (fun w' hk => ?_) (And.intro ?_ ?_); (focus (have q0 := hk.cell cW2_0_0; have q1 := hk.cell cW2_0_1; have q2 := hk.cell cW2_0_2; have q3 := hk.cell cW2_1_0; have q4 := hk.cell cW2_1_1; have q5 := hk.cell cW2_1_2; clear hk; go_simp; exact rfl)); (focus (exact rfl)); simp only [Act.put, List.setIfInBounds_toArray, List.set_cons_zero, List.set_cons_succ]
  refine marks_ex rfl rfl (by kernel_rfl) ?_; apply Exists.intro; refine And.intro (fun w' hk => ?_) (And.intro ?_ ?_); (focus (have q0 := hk.cell cW2_0_0; have q1 := hk.cell cW2_0_1; have q2 := hk.cell cW2_0_2; have q3 := hk.cell cW2_1_0; have q4 := hk.cell cW2_1_1; have q5 := hk.cell cW2_1_2; clear hk; go_simp; exact rfl)); (focus (exact rfl)); simp only [Act.put, List.setIfInBounds_toArray, List.set_cons_zero, List.set_cons_succ]
  refine marks_call rfl rfl (by kernel_rfl) rfl HS.out ?_ ?_; (focus (intro w'; go_simp; done)); simp only [Act.put, List.setIfInBounds_toArray, List.set_cons_zero, List.set_cons_succ]
  refine marks_step (.chan (some 0)) rfl (calmM_make 0 rfl (by kernel_rfl) (fun w' hk => ?_)) ?_
  · refine ⟨_, _, by go_simp, (Kept.refl w').alloc _, ⟨_, rfl, Blk.new _ _ _⟩⟩
  simp only [Act.put, List.setIfInBounds_toArray, List.set_cons_zero, List.set_cons_succ]
  refine marks_step (.int .i64 2) rfl (calmM_on (t := 26) (k := 0) (by kernel_rfl) rfl _ rfl (fun a' w' hk h => ?_)) ?_
  · obtain ⟨g, hg, hB⟩ := h; simp only [Act.eval, Array.getD_eq_getD_getElem?] at hg; go_simp
  simp only [Act.put, List.setIfInBounds_toArray, List.set_cons_zero, List.set_cons_succ]
  refine marks_ex rfl rfl (by kernel_rfl) ?_; apply Exists.intro; refine And.intro (fun w' hk => ?_) (And.intro ?_ ?_); (focus (clear hk; go_simp; exact rfl)); (focus (exact rfl)); simp only [Act.put, List.setIfInBounds_toArray, List.set_cons_zero, List.set_cons_succ]
  refine marks_nil ?_
  intro a'' W3 hkW3 hra
  obtain ⟨mb, hmb, rfl⟩ := hra.mark1 26 0 rfl rfl
  simp only [Act.put, List.setIfInBounds_toArray, List.set_cons_zero, List.set_cons_succ]
  clear hra
  obtain ⟨b, rfl, Bb⟩ := hmb
  go_wp2_with fail
  go_loopw [28] (fun t wr => ∃ i : Nat, i ≤ 2 ∧ t = .int .i64 i ∧ Kept w wr ∧ Blk wr b 25 #[.float .f64 low0, .float .f64 step0, .int .u32 steps0, .float .f64 low1, .float .f64 step1, .int .u32 steps1]) (fun t _ => 2 - (intOf t).toNat)
  case atStart => exact ⟨0, by omega, rfl, kW2.trans hkW3, Bb⟩
  case round =>
    obtain ⟨i, hi, rfl, kwr, Bb2⟩ := hrel
    by_cases hlt : i < 2
    · obtain ⟨low, step, steps, vv, cc, HW, HR, c0, c1, c2⟩ : ∃ (low step : Nat) (steps : Int) (vv cc : Nat → Int), Hid (∀ j, j < n → Pure Try.prog 13 #[.agg #[.float .f64 low, .float .f64 step, .int .u32 steps], .float .f64 (X j)] (.tuple #[.int .u32 (vv j), .int .i64 (cc j)])) ∧ Hid (∀ j, j < n → Pure Try.prog 11 #[.agg #[.float .f64 low, .float .f64 step, .int .u32 steps], .float .f64 (X j)] (.tuple #[.int .u32 (vv j), .int .i64 (cc j)])) ∧ wr.cell? ⟨b, i * 3, none⟩ = some (.float .f64 low) ∧ wr.cell? ⟨b, i * 3 + 1, none⟩ = some (.float .f64 step) ∧ wr.cell? ⟨b, i * 3 + 2, none⟩ = some (.int .u32 steps) := by
        rcases (by omega : i = 0 ∨ i = 1) with rfl | rfl
        · exact ⟨low0, step0, steps0, vf 0, cf 0, HW0, HR0, Bb2.cell 0 rfl, Bb2.cell 1 rfl, Bb2.cell 2 rfl⟩
        · exact ⟨low1, step1, steps1, vf 1, cf 1, HW1, HR1, Bb2.cell 3 rfl, Bb2.cell 4 rfl, Bb2.cell 5 rfl⟩
      have hi0 : (0 : Int) ≤ (i : Int) := by omega
      have hi2 : (i : Int) < 2 := by omega
      go_upto_region 8 with (fail)
      obtain ⟨g, hg⟩ : ∃ g, wr.heap.size = g := ⟨_, rfl⟩
      simp only [hg]
      refine abs_world (fun W => Kept w W ∧ Blk W b 25 #[.float .f64 low0, .float .f64 step0, .int .u32 steps0, .float .f64 low1, .float .f64 step1, .int .u32 steps1] ∧ Blk W g 25 #[.float .f64 low, .float .f64 step, .int .u32 steps]) ?_ ?_
      · exact ⟨kwr.alloc _, Bb2.alloc _, by rw [← hg]; exact Blk.new _ _ _⟩
      rintro W5 ⟨k5, Bb5, Bg5⟩
      clear c0 c1 c2 hg Bb2 kwr
      have d0 := Bg5.cell 0 rfl
      have d1 := Bg5.cell 1 rfl
      have d2 := Bg5.cell 2 rfl
      rcases Nat.lt_or_ge 64 n with h64 | h64
      · have HV := Lib.hid (vec_many low step steps a n cap h64 (by omega))
        have hn64 : (64 : Int) < (n : Int) := by omega
        go_wp2_with fail
        refine (HV.out _).mono ?_
        rintro e W6 ⟨rfl, hk6⟩
        have k6 := k5.trans hk6
        have Bb6 := Bb5.kept hk6
        clear d0 d1 d2 k5 Bb5 Bg5 hk6
        go_wp2_with fail
        go_roundw
        case rel => exact ⟨i + 1, by omega, by go_num, k6, Bb6⟩
        case measure => simp [intOf]; omega
      · have hn64 : (n : Int) ≤ 64 := by omega
        rcases first_bad cc n with hgood | ⟨k', hk', hgood, hbad⟩
        · have HV := Lib.hid (vec_good low step steps a n cap X vv cc W5 h64 (hS.kept k5) HW hgood)
          go_wp2_with fail
          refine HV.out.mono ?_
          rintro e W6 ⟨v, rfl, hown, hk6⟩
          have k6 := k5.trans hk6
          have Bb6 := Bb5.kept hk6
          have Bg6 := Bg5.kept hk6
          obtain ⟨ga, gcap, rfl, hgot⟩ := slU_of_own hown (by omega)
          clear d0 d1 d2 k5 Bb5 Bg5 hk6 HV hown
          go_wp2_with fail
          go_loopw [11, 12, 50] (fun c0 v t wr2 => c0 = .int .i64 0 ∧ ∃ j : Nat, j ≤ n ∧ t = .int .i64 j ∧ Kept W6 wr2 ∧ wr2.ownsRow W6.heap.size 23 1 v j ((List.range j).map fun i => Value.int .u32 (vv i))) (fun _ _ t _ => n - (intOf t).toNat)
          case atStart => exact ⟨rfl, 0, Nat.zero_le _, rfl, Kept.refl _, World.ownsRow_nil _ _ _ _⟩
          case round =>
            rename_i wr2
            obtain ⟨rfl, j, hj, rfl, kr, hown⟩ := hrel
            have hj0 : (0 : Int) ≤ (j : Int) := by omega
            rcases Nat.lt_or_ge j n with hjn | hjn
            · obtain ⟨p, hix, hp⟩ := ((hS.kept k6).kept kr).at' j hjn
              have hjn2 : (j : Int) < (n : Int) := by omega
              have hz := hgood.out j hjn
              have hcall := HR.out j (by omega)
              generalize X j = x at hp hcall
              have HCall := Lib.hid hcall
              clear hcall
              have d0 := (Bg6.kept kr).cell 0 rfl
              have d1 := (Bg6.kept kr).cell 1 rfl
              have d2 := (Bg6.kept kr).cell 2 rfl
              generalize hvv : vv j = v at *
              have HVV := Lib.hid hvv
              clear hvv
              generalize hcc : cc j = c at *
              have HCC := Lib.hid hcc
              clear hcc
              go_wp2_with fail
              refine (HF.out low step steps _).mono ?_
              rintro e W7 ⟨rfl, hk7⟩
              clear d0 d1 d2 hp
              go_wp2_with fail
              refine (HCall.out _).mono ?_
              rintro e W8 ⟨rfl, hk8⟩
              have k8 := kr.trans (hk7.trans hk8)
              have hown3 := ownsRow_kept hown (hk7.trans hk8)
              have hbase : W6.heap.size ≤ W8.heap.size := k8.size
              clear hk7 hk8 hown
              go_wp2_with (at_builtin; refine wpList_append_one 33 23 info23 Try.underlying33 rfl (by decide) hown3 [.int .u32 v] rfl (by intro u hu; simp at hu; subst hu; rfl) (by omega) (by decide) hbase (.tmp 64) (.tmp 66) rfl rfl rfl rfl ?_; intro v' w1 hown4 hgrow hne)
              have kw1 := grown_kept k8 hown3 hgrow (Nat.le_refl _)
              clear hown3 hgrow hbase k8
              go_wp2_with fail
              go_roundw
              case rel => exact ⟨rfl, j + 1, by omega, by go_num, kw1, by rw [List.range_succ, List.map_append, List.map_singleton, HVV.out]; exact hown4⟩
              case measure => simp [intOf]; omega
            · have hjn2 : (n : Int) ≤ (j : Int) := by omega
              obtain rfl : j = n := by omega
              obtain ⟨wa, wcap, rfl, hwant⟩ := slU_of_own hown (by omega)
              have hgot2 := hgot.kept kr
              have kk := k6.trans kr
              have Bb7 := Bb6.kept kr
              clear Bb6 Bg6 hown hgot kr k6
              go_wp2_with fail
              go_loopw [81] (fun t wr3 => ∃ q : Nat, q ≤ j ∧ t = .int .i64 q ∧ Kept w wr3 ∧ Blk wr3 b 25 #[.float .f64 low0, .float .f64 step0, .int .u32 steps0, .float .f64 low1, .float .f64 step1, .int .u32 steps1] ∧ SlU wr3 ga j gcap vv ∧ SlU wr3 wa j wcap vv) (fun t _ => j - (intOf t).toNat)
              case atStart => exact ⟨0, Nat.zero_le _, rfl, kk, Bb7, hgot2, hwant⟩
              case round =>
                rename_i wr3
                obtain ⟨q, hq, rfl, k3, Bb8, g3, w3⟩ := hrel
                have hq0 : (0 : Int) ≤ (q : Int) := by omega
                rcases Nat.lt_or_ge q j with hqn | hqn
                · obtain ⟨p1, hi1, hc1⟩ := g3.at' q hqn
                  obtain ⟨p2, hi2', hc2⟩ := w3.at' q hqn
                  have hqn2 : (q : Int) < (j : Int) := by omega
                  generalize vv q = z at hc1 hc2
                  go_wp2_with fail
                  refine wp_region_calm 8 (by kernel_rfl) (by kernel_rfl) ?_
                  simp only [List.take_succ_cons, List.take_zero, List.drop_succ_cons, List.drop_zero]
                  repeat (first
                    | (refine calm_skip rfl ?_; simp only [Act.put, List.setIfInBounds_toArray, List.set_cons_zero, List.set_cons_succ])
                    | (refine calm_ex rfl ?_; apply Exists.intro; refine And.intro (fun w' hk => ?_) ?_; (focus (have q0 := hk.cell hc1; have q1 := hk.cell hc2; clear hk; go_simp; exact rfl)); simp only [Act.put, List.setIfInBounds_toArray, List.set_cons_zero, List.set_cons_succ]))
                  refine calm_nil ?_
                  intro W9 hk9
                  have k9 := k3.trans hk9
                  have Bb9 := Bb8.kept hk9
                  have g9 := g3.kept hk9
                  have w9 := w3.kept hk9
                  clear hc1 hc2 k3 Bb8 g3 w3 hk9
                  go_wp2_with fail
                  go_roundw
                  case rel => exact ⟨q + 1, by omega, by go_num, k9, Bb9, g9, w9⟩
                  case measure => simp [intOf]; omega
                · have hqn2 : (j : Int) ≤ (q : Int) := by omega
                  go_wp2_with fail
                  go_roundw
                  case rel => exact ⟨i + 1, by omega, by go_num, k3, Bb8⟩
                  case measure => simp [intOf]; omega
        · have HV := Lib.hid (vec_bad low step steps a n cap X vv cc k' W5 h64 (hS.kept k5) HW hk' hgood hbad)
          go_wp2_with fail
          refine HV.out.mono ?_
          rintro e W6 ⟨rfl, hk6⟩
          have k6 := k5.trans hk6
          have Bb6 := Bb5.kept hk6
          have Bg6 := Bg5.kept hk6
          clear d0 d1 d2 k5 Bb5 Bg5 hk6 HV
          go_wp2_with fail
          go_loopw [12, 50] (fun v t wr2 => ∃ j : Nat, j ≤ k' ∧ t = .int .i64 j ∧ Kept W6 wr2 ∧ wr2.ownsRow W6.heap.size 23 1 v j ((List.range j).map fun i => Value.int .u32 (vv i))) (fun _ t _ => k' + 1 - (intOf t).toNat)
          case atStart => exact ⟨0, Nat.zero_le _, rfl, Kept.refl _, World.ownsRow_nil _ _ _ _⟩
          case round =>
            rename_i wr2
            obtain ⟨j, hj, rfl, kr, hown⟩ := hrel
            have hj0 : (0 : Int) ≤ (j : Int) := by omega
            have hjn : j < n := by omega
            obtain ⟨p, hix, hp⟩ := ((hS.kept k6).kept kr).at' j hjn
            have hjn2 : (j : Int) < (n : Int) := by omega
            rcases Nat.lt_or_ge j k' with hjk | hjk
            · have hz := hgood.out j hjk
              have hcall := HR.out j (by omega)
              generalize X j = x at hp hcall
              have HCall := Lib.hid hcall
              clear hcall
              have d0 := (Bg6.kept kr).cell 0 rfl
              have d1 := (Bg6.kept kr).cell 1 rfl
              have d2 := (Bg6.kept kr).cell 2 rfl
              generalize hvv : vv j = v at *
              have HVV := Lib.hid hvv
              clear hvv
              generalize hcc : cc j = c at *
              have HCC := Lib.hid hcc
              clear hcc
              go_wp2_with fail
              refine (HF.out low step steps _).mono ?_
              rintro e W7 ⟨rfl, hk7⟩
              clear d0 d1 d2 hp
              go_wp2_with fail
              refine (HCall.out _).mono ?_
              rintro e W8 ⟨rfl, hk8⟩
              have k8 := kr.trans (hk7.trans hk8)
              have hown3 := ownsRow_kept hown (hk7.trans hk8)
              have hbase : W6.heap.size ≤ W8.heap.size := k8.size
              clear hk7 hk8 hown
              go_wp2_with (at_builtin; refine wpList_append_one 33 23 info23 Try.underlying33 rfl (by decide) hown3 [.int .u32 v] rfl (by intro u hu; simp at hu; subst hu; rfl) (by omega) (by decide) hbase (.tmp 64) (.tmp 66) rfl rfl rfl rfl ?_; intro v' w1 hown4 hgrow hne)
              have kw1 := grown_kept k8 hown3 hgrow (Nat.le_refl _)
              clear hown3 hgrow hbase k8
              go_wp2_with fail
              go_roundw
              case rel => exact ⟨j + 1, by omega, by go_num, kw1, by rw [List.range_succ, List.map_append, List.map_singleton, HVV.out]; exact hown4⟩
              case measure => simp [intOf]; omega
            · obtain rfl : j = k' := by omega
              have hz := hbad.out
              have hcall := HR.out j (by omega)
              generalize X j = x at hp hcall
              have HCall := Lib.hid hcall
              clear hcall
              have d0 := (Bg6.kept kr).cell 0 rfl
              have d1 := (Bg6.kept kr).cell 1 rfl
              have d2 := (Bg6.kept kr).cell 2 rfl
              generalize hvv : vv j = v at *
              have HVV := Lib.hid hvv
              clear hvv
              generalize hcc : cc j = c at *
              have HCC := Lib.hid hcc
              clear hcc
              go_wp2_with fail
              refine (HF.out low step steps _).mono ?_
              rintro e W7 ⟨rfl, hk7⟩
              clear d0 d1 d2 hp
              go_wp2_with fail
              refine (HCall.out _).mono ?_
              rintro e W8 ⟨rfl, hk8⟩
              have kk := (k6.trans kr).trans (hk7.trans hk8)
              have Bb7 := (Bb6.kept kr).kept (hk7.trans hk8)
              clear hk7 hk8 hown kr k6 Bb6 Bg6
              go_wp2_with fail
              refine wp_loop_rounds 1 ?_
              rw [rounds_succ]
              go_wp2_with fail
              go_roundw
              case rel => exact ⟨i + 1, by omega, by go_num, kk, Bb7⟩
              case measure => simp [intOf]; omega
    · have hi2 : (2 : Int) ≤ (i : Int) := by omega
      go_wp2_with fail
      go_ret
      exact ⟨rfl, kwr⟩
end Go.Proofs.Ytbpmgdneiejhoaa
