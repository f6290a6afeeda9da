/-
  FieldVecs: the walk.
-/
import Derived.Test.YtnajihlhcdedgaaZh
import Derived.Test.YtnajihlhcdedgaaZg
namespace Go.Proofs.Ytnajihlhcdedgaa
open Go.RowKit
set_option linter.unusedVariables false
set_option linter.unusedSimpArgs false
attribute [local simp] blkAt_setCell blkAt_alloc blkAt_drew Obj.put_cells

/-- What becomes of a count. -/
def VMode (w : World) (f : Int) (c : Option Addr) (m capc g o L : Nat) (kv : Int) : Prop :=
  (decide (kv < 0) = true ∧ (∀ w', Kept w w' → Calls Try.prog 95 #[.int .u8 f, .slice c m capc, .int .i64 kv] w' fun e w'' => e = .returned (.tuple #[.slice none 0 0, .int .i64 6]) ∧ Kept w' w'')) ∨
  (decide (kv < 0) = false ∧ decide (kv > 4096) = true ∧ (∀ w', Kept w w' → Calls Try.prog 95 #[.int .u8 f, .slice c m capc, .int .i64 kv] w' fun e w'' => e = .returned (.tuple #[.slice none 0 0, .int .i64 6]) ∧ Kept w' w'')) ∨
  (decide (kv < 0) = false ∧ decide (kv > 4096) = false ∧ (∃ p, IntKind.i64.wrap (kv * (L : Int)) = p ∧ ((m : Int) != p) = true) ∧ (∀ w', Kept w w' → Calls Try.prog 95 #[.int .u8 f, .slice c m capc, .int .i64 kv] w' fun e w'' => e = .returned (.tuple #[.slice none 0 0, .int .i64 9]) ∧ Kept w' w'')) ∨
  (∃ (K z : Nat) (R0 R1 : Nat → Int), kv = (K : Int) ∧ K ≤ 4096 ∧ m = K * L ∧ z ≤ K ∧
    (z = K ∨ Hid (∀ w' cc, Kept w w' → Calls Try.prog 44 #[.int .i64 f, .slice (some ⟨g, o + z * L, none⟩) L cc] w' fun e w'' => e = .returned (.tuple #[.agg #[.int .u64 0, .int .u64 0], .bool false]) ∧ Kept w' w'')) ∧
    Hid (∀ i, i < z → ∀ w' cc, Kept w w' → Calls Try.prog 44 #[.int .i64 f, .slice (some ⟨g, o + i * L, none⟩) L cc] w' fun e w'' => e = .returned (.tuple #[.agg #[.int .u64 (R0 i), .int .u64 (R1 i)], .bool true]) ∧ Kept w' w'') ∧
    (∀ w', Kept w w' → Calls Try.prog 95 #[.int .u8 f, .slice c m capc, .int .i64 (K : Int)] w' fun e w'' => ∃ v, e = .returned (.tuple #[v, .int .i64 (if z = K then 0 else 7)]) ∧ Kept w' w'' ∧ w''.ownsRow w'.heap.size 28 2 v (if z = K then K else 0) (elist R0 R1 (if z = K then K else 0))))
/-- What becomes of the whole. -/
def TMode (w : World) (f : Int) (c : Option Addr) (m capc L : Nat) : Prop :=
  (((m : Int) != (L : Int)) = true ∧ Pure Try.prog 97 #[.int .u8 f, .slice c m capc] (.tuple #[.agg #[.int .u64 0, .int .u64 0], .int .i64 9])) ∨
  (m = L ∧ ∃ r0 r1 e b, ((e == 0) == b) = true ∧ (∀ w', Kept w w' → Calls Try.prog 97 #[.int .u8 f, .slice c m capc] w' fun x w'' => x = .returned (.tuple #[.agg #[.int .u64 r0, .int .u64 r1], .int .i64 e]) ∧ Kept w' w'') ∧
    (∀ w', Kept w w' → Calls Try.prog 44 #[.int .i64 f, .slice c m capc] w' fun x w'' => x = .returned (.tuple #[.agg #[.int .u64 r0, .int .u64 r1], .bool b]) ∧ Kept w' w''))

theorem size3 : (Try.prog.info? 3).map (fun i => i.size) = some 1 := by kernel_rfl
set_option maxRecDepth 100000 in
set_option maxHeartbeats 8000000 in
theorem field_vecs_r (u f : Int) (hF : Pure Try.prog 77 #[.int .u8 u] (.int .u8 f)) (wf : IntKind.i64.wrap f = f) (a : Option Addr) (n cap N : Nat) (A0 A1 O0 O1 : Nat → Int) (yn : (n : Int) ≤ 30)
    (c : Option Addr) (m capc g o : Nat) (ym : (m : Int) ≤ 400) (hc : m = 0 ∨ c = some ⟨g, o, none⟩) (hmc : m ≤ capc) (hcap63 : (capc : Int) ≤ 9223372036854775807)
    (L : Nat) (hL : 0 < L) (hL2 : L ≤ 16) (hS : Pure Try.prog 89 #[.int .u8 f] (.int .i64 (L : Int))) (many q : Int) (hq : IntKind.i64.wrap ((m : Int) / (L : Int)) = q) (w : World) (hA : SlE w a n cap N A0 A1)
    (HOf : Hid (∀ j, j < n → Pure Try.prog 32 #[.int .i64 f, .agg #[.int .u64 (A0 j), .int .u64 (A1 j)]] (.agg #[.int .u64 (O0 j), .int .u64 (O1 j)]))) (bt : Nat → Nat → Int) (S : ByteArray)
    (HVec : Hid (∀ w', Kept w w' → Calls Try.prog 94 #[.int .u8 f, .slice a n cap] w' fun e w'' => ∃ v, e = .returned v ∧ Kept w' w'' ∧ w''.ownsRow w'.heap.size 5 1 v (n * L) (vecL bt L n)))
    (HRVec : Hid (∀ w' ad cp, SlE w' ad n cp w'.heap.size O0 O1 → ∀ W, Kept w' W → Calls Try.prog 96 #[.int .i64 f, .slice ad n cp] W fun e w'' => ∃ v, e = .returned v ∧ (readMean (vecL bt L n)).is v w'' ∧ Kept W w''))
    (HC : Hid (∀ v w', Reads w' v (vecL bt L n) → (convert 42 9 v).run Try.prog w' = .ok (.string S) w'))
    (HTV : Hid (∀ w' base v, Kept w w' → w'.ownsRow base 5 1 v (n * L) (vecL bt L n) → Calls Try.prog 95 #[.int .u8 f, v, .int .i64 (n : Int)] w' fun e w'' => ∃ v', e = .returned (.tuple #[v', .int .i64 0]) ∧ Kept w' w'' ∧ w''.ownsRow w'.heap.size 28 2 v' n (elist O0 O1 n)))
    (HK : Hid (∀ kv, kv = many ∨ kv = q → VMode w f c m capc g o L kv)) (HT : Hid (TMode w f c m capc L)) :
    Calls Try.prog 23 #[.int .u8 u, .slice a n cap, .slice c m capc, .int .i64 many] w fun e w' => e = .returned (.bool true) ∧ Kept w w' := by
  have HA := Lib.hid f_Awake
  have HF := Lib.hid hF
  have HS := Lib.hid hS
  clear hF hS
  have hneq := neq28_self
  have heq := eql28_selfF
  go_enter Try.func23, Try.ntmps23
  go_wp2_with fail
  refine (HA.out _).mono ?_
  rintro e W1 ⟨rfl, k1⟩
  go_wp2_with fail
  refine (HF.out _).mono ?_
  rintro e W2 ⟨rfl, hk2⟩
  have k2 := k1.trans hk2
  clear k1 hk2
  go_wp2_with fail
  refine (HF.out _).mono ?_
  rintro e W3 ⟨rfl, hk3⟩
  have k3 := k2.trans hk3
  clear k2 hk3
  go_wp2_with fail
  go_loopw [11, 47] (fun v t wr => ∃ i : Nat, i ≤ n ∧ t = .int .i64 i ∧ Kept w wr ∧ wr.ownsRow w.heap.size 28 2 v i (elist O0 O1 i)) (fun _ t _ => n - (intOf t).toNat)
  case atStart => exact ⟨0, Nat.zero_le _, rfl, k3, World.ownsRow_nil _ _ _ _⟩
  case round =>
    clear k3
    obtain ⟨i, hi, rfl, k, hown⟩ := hrel
    have zi : (0 : Int) ≤ (i : Int) := by omega
    obtain ⟨va, vn, vc, rfl⟩ := ownsRow_slice hown
    rcases Nat.lt_or_ge i n with hlt | hge
    · have yi : (i : Int) < (n : Int) := by omega
      have HE := Lib.hid (elist_succ O0 O1 i)
      obtain ⟨p, hip, cp0, cp1, _⟩ := (hA.kept k).at' i hlt
      have HOi := Lib.hid (HOf.out i hlt)
      generalize A0 i = c0 at cp0 HOi
      generalize A1 i = c1 at cp1 HOi
      generalize O0 i = r0 at *
      generalize O1 i = r1 at *
      obtain ⟨g9, hg9⟩ : ∃ g, wr.heap.size = g := ⟨_, rfl⟩
      have nw9 : w.heap.size ≤ g9 := hg9 ▸ k.size
      go_upto_region 10 with (refine wpList_load_elem (.tmp 49) cp0 cp1 rfl rfl rfl ?_)
      try simp only [hg9]
      clear cp0 cp1
      refine abs_world (fun W => Kept wr W ∧ Blk W g9 28 #[.int .u64 c0, .int .u64 c1]) ⟨?_, ?_⟩ ?_
      · have nw8 : wr.heap.size ≤ g9 := by omega
        repeat (first | exact Kept.refl _ | (refine Kept.setCell ?_ (kept_side (by first | assumption | omega)) _) | apply Kept.alloc | apply Kept.drew)
      · simp [Blk, *]
      clear hg9
      rintro W4 ⟨hk4, B4⟩
      have k4 := k.trans hk4
      have hown4 := ownsRow_kept hown hk4
      clear k hown hk4
      have d0 := B4.cell 0 rfl
      have d1 := B4.cell 1 rfl
      go_wp2_with fail
      refine (HOi.out _).mono ?_
      rintro e W5 ⟨rfl, hk5⟩
      have k5 := k4.trans hk5
      have hown5 := ownsRow_kept hown4 hk5
      have hbase := k5.size
      clear k4 hown4 hk5 d0 d1 B4
      have hiK2 : i + 1 ≤ 4096 := by omega
      go_wp2_with (at_builtin; refine wpList_append_one 90 28 info28 Try.underlying90 rfl (by decide) hown5 [.int .u64 r0, .int .u64 r1] rfl (by intro u hu; simp at hu; rcases hu with rfl | rfl <;> rfl) (by omega) (by decide) hbase (.tmp 51) (.tmp 55) rfl rfl rfl rfl ?_; intro v' w1 hown8 hgrow hne)
      have k8 := grown_kept k5 hown5 hgrow (Nat.le_refl _)
      clear k5 hown5 hgrow hbase
      go_wp2_with fail
      go_roundw
      case rel => exact ⟨i + 1, by omega, by go_num, k8, by rw [HE.out]; exact hown8⟩
      case measure => simp [intOf]; omega
    · have yi : (n : Int) ≤ (i : Int) := by omega
      obtain rfl : n = i := by omega
      obtain ⟨ra, rc, rcl, sR⟩ := SlE.of_own hown
      injection rcl with e1 e2 e3
      subst va; subst vn; subst vc
      clear hown
      go_wp2_with fail
      refine (HVec.out _ k).mono ?_
      rintro e W6 ⟨bv, rfl, hk6, hown6⟩
      have k6 := k.trans hk6
      have sR6 := sR.kept hk6
      have lR6 := hk6.size
      obtain ⟨ba, bn, bc, rfl⟩ := ownsRow_slice hown6
      go_wp2_with fail
      refine (HTV.out _ _ _ k6 hown6).mono ?_
      rintro e W7 ⟨tv, rfl, hk7, hown7⟩
      have k7 := k6.trans hk7
      have sR7 := sR6.kept hk7
      have lR7 := Nat.le_trans lR6 hk7.size
      have hcv := reads_of_own (ownsRow_kept hown6 hk7)
      have hcv' : ∀ w', Kept W7 w' → (convert 42 9 (.slice ba bn bc)).run Try.prog w' = .ok (.string S) w' := fun w' hk => HC.out _ _ (hcv.kept hk)
      obtain ⟨ta, tc, rfl, sT⟩ := SlE.of_own hown7
      have HRV := Lib.hid (HRVec.out W7 _ _ (sR7.mono lR7))
      have HSm : Hid (∀ w', Kept W7 w' → Calls Try.prog 90 #[.slice ta n tc, .slice ra n rc] w' fun e w'' => e = .returned (.bool true) ∧ Kept w' w'') := Lib.hid fun w' hk => ref_Same_r w' ta n tc _ ra rc _ O0 O1 (by omega) (sT.kept hk) (sR7.kept hk)
      clear hcv hown6 hown7 sR sR6 sR7 sT k k6 hk6 hk7 lR6 lR7
      go_upto_region 14 with (fail)
      try simp only [List.append_eq, List.cons_append, List.nil_append]
      refine wp_region_wl (fun _ => readMean (vecL bt L n)) 17 (by kernel_rfl) (by as_aux_lemma => kernel_rfl) _ rfl _ rfl _ _ rfl rfl (fun k0 Lq hLq => ?_)
      dsimp only [List.map_cons, List.map_nil, List.take_succ_cons, List.take_zero, List.drop_succ_cons, List.drop_zero] at hLq ⊢
      repeat (first
        | (refine WL.law _ rfl rfl (by kernel_rfl) rfl rfl (calm_conv (x := .tmp 69) (src := 42) (dst := 9) hcv' rfl) ?_; dsimp only [List.set_cons_zero, List.set_cons_succ])
        | (refine WL.skip rfl rfl ?_; dsimp only [List.set_cons_zero, List.set_cons_succ])
        | (refine WL.makeAt 0 rfl rfl (by kernel_rfl) rfl HRV.out ?_ ?_; (focus (intro w'; go_simp; done)); dsimp only [List.set_cons_zero, List.set_cons_succ])
        | (refine WL.conv 0 73 (.string S) rfl rfl rfl rfl rfl HC.out ?_; dsimp only [List.set_cons_zero, List.set_cons_succ])
        | (refine WL.callAt rfl rfl (by kernel_rfl) rfl rfl HSm.out ?_ ?_; (focus (intro w'; go_simp; done)); dsimp only [List.set_cons_zero, List.set_cons_succ])
        | (refine WL.ex rfl rfl (by kernel_rfl) rfl ?_; apply Exists.intro; refine And.intro (fun w' hk => ?_) (And.intro ?_ ?_); (focus (clear hk; go_simp; exact rfl)); (focus (exact rfl)); dsimp only [List.set_cons_zero, List.set_cons_succ]))
      refine WL.nil (hLq _ ?_)
      clear hLq
      intro a'' W8 hk hra
      obtain ⟨m73, hm73, rfl⟩ := hra.mark1 73 0 (by kernel_rfl) rfl
      simp only [Act.put, List.setIfInBounds_toArray, List.set_cons_zero, List.set_cons_succ]
      clear hra hm73
      try simp only [List.drop_succ_cons, List.drop_zero, List.drop_nil]
      have k8 := k7.trans hk
      clear k7 hk HRV HSm hcv'
      go_wp2_with fail
      refine (HS.out _).mono ?_
      rintro e W9 ⟨rfl, hk9⟩
      have k9 := k8.trans hk9
      clear k8 hk9
      obtain ⟨g12, hg12⟩ : ∃ g, W9.heap.size = g := ⟨_, rfl⟩
      have nw12 : w.heap.size ≤ g12 := hg12 ▸ k9.size
      have zL : (L : Int) ≠ 0 := by omega
      go_wp2_with fail
      try simp only [hg12]
      go_loopw [94] (fun t wr => ∃ j : Nat, j ≤ 2 ∧ t = .int .i64 j ∧ Kept w wr ∧ Blk wr g12 3 #[.int .i64 many, .int .i64 q]) (fun t _ => 2 - (intOf t).toNat)
      case atStart =>
        refine ⟨0, by omega, rfl, ?_, ?_⟩
        · repeat (first | exact k9 | (refine Kept.setCell ?_ (kept_side (by first | assumption | omega)) _) | apply Kept.alloc | apply Kept.drew)
        · simp [Blk, *]
      case round =>
        clear k9
        rename World => wr2
        obtain ⟨j, hj, rfl, k, B⟩ := hrel
        have zj : (0 : Int) ≤ (j : Int) := by omega
        rcases Nat.lt_or_ge j 2 with hlt2 | hge2
        · have yj : (j : Int) < 2 := by omega
          obtain ⟨kv, hkv, cpk⟩ : ∃ kv, (kv = many ∨ kv = q) ∧ wr2.cell? ⟨g12, j, none⟩ = some (.int .i64 kv) := by
            rcases (show j = 0 ∨ j = 1 by omega) with rfl | rfl
            · exact ⟨many, .inl rfl, B.cell 0 rfl⟩
            · exact ⟨q, .inr rfl, B.cell 1 rfl⟩
          have hipk : ∀ w', (Instr.indexAt 118 (.slice (some ⟨g12, 0, none⟩) 2 2) (.int .i64 (j : Int))).run Try.prog w' = .ok (.pointer (some ⟨g12, j, none⟩)) w' := fun w' => by rw [run_index_at Try.underlying118 size3 hlt2 w', add_zero_at]
          rcases HK.out kv hkv with h | h | h | h
          · obtain ⟨hd, hv⟩ := h
            go_wp2_with fail
            refine (hv _ k).mono ?_
            rintro e X21 ⟨rfl, hk⟩
            have k' := k.trans hk
            have B' := B.kept hk
            clear k B
            have k := k'
            clear k'
            have B := B'
            clear B'
            clear cpk
            clear hk
            go_wp2_with fail
            go_roundw
            case rel => exact ⟨j + 1, by omega, by go_num, k, B⟩
            case measure => simp [intOf]; omega
          · obtain ⟨hd, hd2, hv⟩ := h
            go_wp2_with fail
            refine (hv _ k).mono ?_
            rintro e X22 ⟨rfl, hk⟩
            have k' := k.trans hk
            have B' := B.kept hk
            clear k B
            have k := k'
            clear k'
            have B := B'
            clear B'
            clear cpk
            clear hk
            go_wp2_with fail
            go_roundw
            case rel => exact ⟨j + 1, by omega, by go_num, k, B⟩
            case measure => simp [intOf]; omega
          · obtain ⟨hd, hd2, ⟨pp, hpp, hne⟩, hv⟩ := h
            go_wp2_with fail
            refine (hv _ k).mono ?_
            rintro e X23 ⟨rfl, hk⟩
            have k' := k.trans hk
            have B' := B.kept hk
            clear k B
            have k := k'
            clear k'
            have B := B'
            clear B'
            clear cpk
            clear hk
            go_wp2_with fail
            refine (HS.out _).mono ?_
            rintro e X24 ⟨rfl, hk⟩
            have k' := k.trans hk
            have B' := B.kept hk
            clear k B
            have k := k'
            clear k'
            have B := B'
            clear B'
            clear hk
            go_wp2_with fail
            go_roundw
            case rel => exact ⟨j + 1, by omega, by go_num, k, B⟩
            case measure => simp [intOf]; omega
          · obtain ⟨K, z, R0, R1, rfl, hK4, hmK, hzK, hno, hyes, hv⟩ := h
            rcases Nat.eq_or_lt_of_le hzK with hzK | hzK
            · clear hno
              subst z
              simp only [eq_self, if_true] at hv
              have zK : (0 : Int) ≤ (K : Int) := by omega
              have yK : (K : Int) ≤ 4096 := by omega
              have hKL : K * L ≤ 4096 * 16 := Nat.mul_le_mul hK4 hL2
              have eKL : (K : Int) * (L : Int) = ((K * L : Nat) : Int) := by simp
              have hwK : IntKind.i64.wrap ((K : Int) * (L : Int)) = (m : Int) := by rw [eKL, hmK]; exact IntWalk.i64_in _ (by omega)
              clear hKL eKL
              have HMK := Lib.hid hmK
              clear hmK
              go_wp2_with fail
              refine (hv _ k).mono ?_
              rintro e X25 ⟨tv, rfl, hk, hownT⟩
              have k' := k.trans hk
              have B' := B.kept hk
              clear k B
              have k := k'
              clear k'
              have B := B'
              clear B'
              clear cpk
              clear hk
              go_wp2_with fail
              obtain ⟨ta, tc, rfl, sT⟩ := SlE.of_own hownT
              clear hownT
              refine (HS.out _).mono ?_
              rintro e X26 ⟨rfl, hk⟩
              have k' := k.trans hk
              have B' := B.kept hk
              have sT' := sT.kept hk
              clear k B sT
              have k := k'
              clear k'
              have B := B'
              clear B'
              have sT := sT'
              clear sT'
              clear hk
              go_wp2_with fail
              go_loopw [21, 22, 125] (fun v cd t wr => ∃ i : Nat, i ≤ K ∧ t = .int .i64 i ∧ cd = .int .i64 0 ∧ Kept X26 wr ∧ wr.ownsRow X26.heap.size 28 2 v i (elist R0 R1 i)) (fun _ _ t _ => K - (intOf t).toNat)
              case atStart => exact ⟨0, Nat.zero_le _, rfl, rfl, Kept.refl _, World.ownsRow_nil _ _ _ _⟩
              case round =>
                rename World => wr3
                obtain ⟨i, hi, rfl, rfl, kb, hown⟩ := hrel
                have zi : (0 : Int) ≤ (i : Int) := by omega
                obtain ⟨va, vn, vc, rfl⟩ := ownsRow_slice hown
                rcases Nat.lt_or_ge i K with hlt | hge
                · have HY := hyes.out i hlt
                  have yi : (i : Int) < (K : Int) := by omega
                  have y1 : IntKind.i64.wrap ((i : Int) + 1) = (i : Int) + 1 := IntWalk.i64_in _ (by omega)
                  obtain ⟨M, hM⟩ : ∃ M, i * L = M := ⟨_, rfl⟩
                  have hML : M + L ≤ m := by
                    have h2 := HMK.out
                    have h3 : (i + 1) * L ≤ K * L := Nat.mul_le_mul_right L (by omega)
                    rw [Nat.succ_mul] at h3
                    omega
                  obtain rfl : c = some ⟨g, o, none⟩ := by rcases hc with h | h; omega; exact h
                  have hMi : (i : Int) * (L : Int) = (M : Int) := by rw [← hM, Int.natCast_mul]
                  have hw1 : IntKind.i64.wrap ((i : Int) * (L : Int)) = (M : Int) := by rw [hMi]; exact IntWalk.i64_in _ (by omega)
                  have hw2 : IntKind.i64.wrap (((i : Int) + 1) * (L : Int)) = (M : Int) + (L : Int) := by rw [Int.add_mul, Int.one_mul, hMi]; exact IntWalk.i64_in _ (by omega)
                  have zM : (0 : Int) ≤ (M : Int) := by omega
                  have zL0 : (0 : Int) ≤ (L : Int) := by omega
                  have yML : (M : Int) + (L : Int) ≤ (m : Int) := by omega
                  have ycc : (M : Int) + (L : Int) ≤ (capc : Int) := by omega
                  have yM2 : (M : Int) ≤ (M : Int) + (L : Int) := by omega
                  have cM : ¬ capc - M = 0 := by omega
                  have cM2 : capc ≠ M := by omega
                  have HE := Lib.hid (elist_succ R0 R1 i)
                  rw [hM] at HY
                  have HY := Lib.hid HY
                  have HM0 := Lib.hid hM
                  clear hM
                  go_wp2_with fail
                  refine (HS.out _).mono ?_
                  rintro e X27 ⟨rfl, hk⟩
                  have kb' := kb.trans hk
                  have hown' := ownsRow_kept hown hk
                  clear kb hown
                  have kb := kb'
                  clear kb'
                  have hown := hown'
                  clear hown'
                  clear hk
                  go_wp2_with fail
                  refine (HS.out _).mono ?_
                  rintro e X28 ⟨rfl, hk⟩
                  have kb' := kb.trans hk
                  have hown' := ownsRow_kept hown hk
                  clear kb hown
                  have kb := kb'
                  clear kb'
                  have hown := hown'
                  clear hown'
                  clear hk
                  go_wp2_with fail
                  refine (HY.out _ _ (k.trans kb)).mono ?_
                  rintro e X29 ⟨rfl, hk⟩
                  have kb' := kb.trans hk
                  have hown' := ownsRow_kept hown hk
                  clear kb hown
                  have kb := kb'
                  clear kb'
                  have hown := hown'
                  clear hown'
                  clear hk
                  generalize R0 i = r0 at *
                  generalize R1 i = r1 at *
                  obtain ⟨g9, hg9⟩ : ∃ g, X29.heap.size = g := ⟨_, rfl⟩
                  have nw9 : X26.heap.size ≤ g9 := hg9 ▸ kb.size
                  go_upto_region 34 with (fail)
                  try simp only [hg9]
                  refine abs_world (fun W => Kept X29 W ∧ Blk W g9 28 #[.int .u64 r0, .int .u64 r1]) ⟨?_, ?_⟩ ?_
                  · have nw8 : X29.heap.size ≤ g9 := by omega
                    repeat (first | exact Kept.refl _ | (refine Kept.setCell ?_ (kept_side (by first | assumption | omega)) _) | apply Kept.alloc | apply Kept.drew)
                  · simp [Blk, *]
                  clear hg9
                  rintro X30 ⟨hk, B9⟩
                  have kb' := kb.trans hk
                  have hown' := ownsRow_kept hown hk
                  clear kb hown
                  have kb := kb'
                  clear kb'
                  have hown := hown'
                  clear hown'
                  clear hk
                  have hbase := kb.size
                  have d0 := B9.cell 0 rfl
                  have d1 := B9.cell 1 rfl
                  have hiK2 : i + 1 ≤ 4096 := by omega
                  go_wp2_with (at_builtin; refine wpList_append_one 90 28 info28 Try.underlying90 rfl (by decide) hown [.int .u64 r0, .int .u64 r1] rfl (by intro u hu; simp at hu; rcases hu with rfl | rfl <;> rfl) (by omega) (by decide) hbase (.tmp 146) (.tmp 148) rfl rfl rfl rfl ?_; intro v' w1 hown8 hgrow hne)
                  have kb8 := grown_kept kb hown hgrow (Nat.le_refl _)
                  clear kb hown hgrow hbase d0 d1 B9
                  go_wp2_with fail
                  go_roundw
                  case rel => exact ⟨i + 1, by omega, by go_num, rfl, kb8, by rw [HE.out]; exact hown8⟩
                  case measure => simp [intOf]; omega
                · obtain rfl : i = K := by omega
                  have yi : (i : Int) ≤ (i : Int) := by omega
                  obtain ⟨ra, rc, rcl, sR⟩ := SlE.of_own hown
                  injection rcl with e1 e2 e3
                  subst va; subst vn; subst vc
                  clear hown
                  have sT2 := sT.kept kb
                  have k2 := k.trans kb
                  have B2 := B.kept kb
                  clear sT k B
                  go_wp2_with fail
                  refine (ref_Same_r _ _ _ _ _ _ _ _ R0 R1 (by omega) sT2 sR).mono ?_
                  rintro e X31 ⟨rfl, hk⟩
                  have k := k2.trans hk
                  have B := B2.kept hk
                  clear k2 B2 hk
                  go_wp2_with fail
                  go_roundw
                  case rel => exact ⟨j + 1, by omega, by go_num, k, B⟩
                  case measure => simp [intOf]; omega
            · rcases hno with hno | hno
              · omega
              skip
              simp only [if_neg (Nat.ne_of_lt hzK)] at hv
              have zK : (0 : Int) ≤ (K : Int) := by omega
              have yK : (K : Int) ≤ 4096 := by omega
              have hKL : K * L ≤ 4096 * 16 := Nat.mul_le_mul hK4 hL2
              have eKL : (K : Int) * (L : Int) = ((K * L : Nat) : Int) := by simp
              have hwK : IntKind.i64.wrap ((K : Int) * (L : Int)) = (m : Int) := by rw [eKL, hmK]; exact IntWalk.i64_in _ (by omega)
              clear hKL eKL
              have HMK := Lib.hid hmK
              clear hmK
              go_wp2_with fail
              refine (hv _ k).mono ?_
              rintro e X32 ⟨tv, rfl, hk, hownT⟩
              have k' := k.trans hk
              have B' := B.kept hk
              clear k B
              have k := k'
              clear k'
              have B := B'
              clear B'
              clear cpk
              clear hk
              go_wp2_with fail
              obtain ⟨ta, tc, rfl, sT⟩ := SlE.of_own hownT
              clear hownT
              refine (HS.out _).mono ?_
              rintro e X33 ⟨rfl, hk⟩
              have k' := k.trans hk
              have B' := B.kept hk
              have sT' := sT.kept hk
              clear k B sT
              have k := k'
              clear k'
              have B := B'
              clear B'
              have sT := sT'
              clear sT'
              clear hk
              go_wp2_with fail
              go_loopw [21, 22, 125] (fun v cd t wr => ∃ i : Nat, i ≤ z ∧ t = .int .i64 i ∧ cd = .int .i64 0 ∧ Kept X33 wr ∧ wr.ownsRow X33.heap.size 28 2 v i (elist R0 R1 i)) (fun _ _ t _ => K - (intOf t).toNat)
              case atStart => exact ⟨0, Nat.zero_le _, rfl, rfl, Kept.refl _, World.ownsRow_nil _ _ _ _⟩
              case round =>
                rename World => wr3
                obtain ⟨i, hi, rfl, rfl, kb, hown⟩ := hrel
                have zi : (0 : Int) ≤ (i : Int) := by omega
                obtain ⟨va, vn, vc, rfl⟩ := ownsRow_slice hown
                rcases Nat.lt_or_ge i z with hlt | hge
                · have HY := hyes.out i hlt
                  have yi : (i : Int) < (K : Int) := by omega
                  have y1 : IntKind.i64.wrap ((i : Int) + 1) = (i : Int) + 1 := IntWalk.i64_in _ (by omega)
                  obtain ⟨M, hM⟩ : ∃ M, i * L = M := ⟨_, rfl⟩
                  have hML : M + L ≤ m := by
                    have h2 := HMK.out
                    have h3 : (i + 1) * L ≤ K * L := Nat.mul_le_mul_right L (by omega)
                    rw [Nat.succ_mul] at h3
                    omega
                  obtain rfl : c = some ⟨g, o, none⟩ := by rcases hc with h | h; omega; exact h
                  have hMi : (i : Int) * (L : Int) = (M : Int) := by rw [← hM, Int.natCast_mul]
                  have hw1 : IntKind.i64.wrap ((i : Int) * (L : Int)) = (M : Int) := by rw [hMi]; exact IntWalk.i64_in _ (by omega)
                  have hw2 : IntKind.i64.wrap (((i : Int) + 1) * (L : Int)) = (M : Int) + (L : Int) := by rw [Int.add_mul, Int.one_mul, hMi]; exact IntWalk.i64_in _ (by omega)
                  have zM : (0 : Int) ≤ (M : Int) := by omega
                  have zL0 : (0 : Int) ≤ (L : Int) := by omega
                  have yML : (M : Int) + (L : Int) ≤ (m : Int) := by omega
                  have ycc : (M : Int) + (L : Int) ≤ (capc : Int) := by omega
                  have yM2 : (M : Int) ≤ (M : Int) + (L : Int) := by omega
                  have cM : ¬ capc - M = 0 := by omega
                  have cM2 : capc ≠ M := by omega
                  have HE := Lib.hid (elist_succ R0 R1 i)
                  rw [hM] at HY
                  have HY := Lib.hid HY
                  have HM0 := Lib.hid hM
                  clear hM
                  go_wp2_with fail
                  refine (HS.out _).mono ?_
                  rintro e X34 ⟨rfl, hk⟩
                  have kb' := kb.trans hk
                  have hown' := ownsRow_kept hown hk
                  clear kb hown
                  have kb := kb'
                  clear kb'
                  have hown := hown'
                  clear hown'
                  clear hk
                  go_wp2_with fail
                  refine (HS.out _).mono ?_
                  rintro e X35 ⟨rfl, hk⟩
                  have kb' := kb.trans hk
                  have hown' := ownsRow_kept hown hk
                  clear kb hown
                  have kb := kb'
                  clear kb'
                  have hown := hown'
                  clear hown'
                  clear hk
                  go_wp2_with fail
                  refine (HY.out _ _ (k.trans kb)).mono ?_
                  rintro e X36 ⟨rfl, hk⟩
                  have kb' := kb.trans hk
                  have hown' := ownsRow_kept hown hk
                  clear kb hown
                  have kb := kb'
                  clear kb'
                  have hown := hown'
                  clear hown'
                  clear hk
                  generalize R0 i = r0 at *
                  generalize R1 i = r1 at *
                  obtain ⟨g9, hg9⟩ : ∃ g, X36.heap.size = g := ⟨_, rfl⟩
                  have nw9 : X33.heap.size ≤ g9 := hg9 ▸ kb.size
                  go_upto_region 34 with (fail)
                  try simp only [hg9]
                  refine abs_world (fun W => Kept X36 W ∧ Blk W g9 28 #[.int .u64 r0, .int .u64 r1]) ⟨?_, ?_⟩ ?_
                  · have nw8 : X36.heap.size ≤ g9 := by omega
                    repeat (first | exact Kept.refl _ | (refine Kept.setCell ?_ (kept_side (by first | assumption | omega)) _) | apply Kept.alloc | apply Kept.drew)
                  · simp [Blk, *]
                  clear hg9
                  rintro X37 ⟨hk, B9⟩
                  have kb' := kb.trans hk
                  have hown' := ownsRow_kept hown hk
                  clear kb hown
                  have kb := kb'
                  clear kb'
                  have hown := hown'
                  clear hown'
                  clear hk
                  have hbase := kb.size
                  have d0 := B9.cell 0 rfl
                  have d1 := B9.cell 1 rfl
                  have hiK2 : i + 1 ≤ 4096 := by omega
                  go_wp2_with (at_builtin; refine wpList_append_one 90 28 info28 Try.underlying90 rfl (by decide) hown [.int .u64 r0, .int .u64 r1] rfl (by intro u hu; simp at hu; rcases hu with rfl | rfl <;> rfl) (by omega) (by decide) hbase (.tmp 146) (.tmp 148) rfl rfl rfl rfl ?_; intro v' w1 hown8 hgrow hne)
                  have kb8 := grown_kept kb hown hgrow (Nat.le_refl _)
                  clear kb hown hgrow hbase d0 d1 B9
                  go_wp2_with fail
                  go_roundw
                  case rel => exact ⟨i + 1, by omega, by go_num, rfl, kb8, by rw [HE.out]; exact hown8⟩
                  case measure => simp [intOf]; omega
                · obtain rfl : i = z := by omega
                  have HY := hno.out
                  have yi : (i : Int) < (K : Int) := by omega
                  have y1 : IntKind.i64.wrap ((i : Int) + 1) = (i : Int) + 1 := IntWalk.i64_in _ (by omega)
                  obtain ⟨M, hM⟩ : ∃ M, i * L = M := ⟨_, rfl⟩
                  have hML : M + L ≤ m := by
                    have h2 := HMK.out
                    have h3 : (i + 1) * L ≤ K * L := Nat.mul_le_mul_right L (by omega)
                    rw [Nat.succ_mul] at h3
                    omega
                  obtain rfl : c = some ⟨g, o, none⟩ := by rcases hc with h | h; omega; exact h
                  have hMi : (i : Int) * (L : Int) = (M : Int) := by rw [← hM, Int.natCast_mul]
                  have hw1 : IntKind.i64.wrap ((i : Int) * (L : Int)) = (M : Int) := by rw [hMi]; exact IntWalk.i64_in _ (by omega)
                  have hw2 : IntKind.i64.wrap (((i : Int) + 1) * (L : Int)) = (M : Int) + (L : Int) := by rw [Int.add_mul, Int.one_mul, hMi]; exact IntWalk.i64_in _ (by omega)
                  have zM : (0 : Int) ≤ (M : Int) := by omega
                  have zL0 : (0 : Int) ≤ (L : Int) := by omega
                  have yML : (M : Int) + (L : Int) ≤ (m : Int) := by omega
                  have ycc : (M : Int) + (L : Int) ≤ (capc : Int) := by omega
                  have yM2 : (M : Int) ≤ (M : Int) + (L : Int) := by omega
                  have cM : ¬ capc - M = 0 := by omega
                  have cM2 : capc ≠ M := by omega
                  rw [hM] at HY
                  have HY := Lib.hid HY
                  have HM0 := Lib.hid hM
                  clear hM
                  go_wp2_with fail
                  refine (HS.out _).mono ?_
                  rintro e X38 ⟨rfl, hk⟩
                  have kb' := kb.trans hk
                  have hown' := ownsRow_kept hown hk
                  clear kb hown
                  have kb := kb'
                  clear kb'
                  have hown := hown'
                  clear hown'
                  clear hk
                  go_wp2_with fail
                  refine (HS.out _).mono ?_
                  rintro e X39 ⟨rfl, hk⟩
                  have kb' := kb.trans hk
                  have hown' := ownsRow_kept hown hk
                  clear kb hown
                  have kb := kb'
                  clear kb'
                  have hown := hown'
                  clear hown'
                  clear hk
                  go_wp2_with fail
                  refine (HY.out _ _ (k.trans kb)).mono ?_
                  rintro e X40 ⟨rfl, hk⟩
                  have kb' := kb.trans hk
                  have hown' := ownsRow_kept hown hk
                  clear kb hown
                  have kb := kb'
                  clear kb'
                  have hown := hown'
                  clear hown'
                  clear hk
                  have k2 := k.trans kb
                  have B2 := B.kept kb
                  have lt12 := B2.lt
                  clear sT k B
                  obtain ⟨g9, hg9⟩ : ∃ g, X40.heap.size = g := ⟨_, rfl⟩
                  have nw9 : w.heap.size ≤ g9 := hg9 ▸ k2.size
                  go_upto_region 36 with (fail)
                  try simp only [hg9]
                  refine abs_world (fun W => Kept X40 W) ?_ ?_
                  · have nw8 : X40.heap.size ≤ g9 := by omega
                    repeat (first | exact Kept.refl _ | (refine Kept.setCell ?_ (kept_side (by first | assumption | omega)) _) | apply Kept.alloc | apply Kept.drew)
                  clear hg9
                  rintro X41 hk
                  have k3 := k2.trans hk
                  have B3 := B2.kept hk
                  clear k2 B2 hk
                  have k2 := k3
                  have B2 := B3
                  clear k3 B3
                  go_wp2_with fail
                  refine (ref_Same_r _ _ 0 _ 0 _ _ 0 (fun _ => 0) (fun _ => 0) (by omega) ⟨fun j hj => absurd hj (by omega)⟩ ⟨fun j hj => absurd hj (by omega)⟩).mono ?_
                  rintro e X42 ⟨rfl, hk⟩
                  have k := k2.trans hk
                  have B := B2.kept hk
                  clear k2 B2 hk
                  go_wp2_with fail
                  go_roundw
                  case rel => exact ⟨j + 1, by omega, by go_num, k, B⟩
                  case measure => simp [intOf]; omega
        · have yj : (2 : Int) ≤ (j : Int) := by omega
          obtain rfl : j = 2 := by omega
          rcases HT.out with h | h
          · obtain ⟨hd, hv⟩ := h
            have HV := Lib.hid hv
            clear hv
            go_wp2_with fail
            refine (HV.out _).mono ?_
            rintro e X43 ⟨rfl, hk⟩
            have k' := k.trans hk
            clear k
            have k := k'
            clear k'
            clear hk B
            obtain ⟨g26, hg26⟩ : ∃ g, X43.heap.size = g := ⟨_, rfl⟩
            have ng26 : w.heap.size ≤ g26 := hg26 ▸ k.size
            go_upto_region 40 with (fail)
            try simp only [hg26]
            refine abs_world (fun W => Kept X43 W ∧ Blk W g26 28 #[.int .u64 0, .int .u64 0]) ⟨?_, ?_⟩ ?_
            · have nw8 : X43.heap.size ≤ g26 := by omega
              repeat (first | exact Kept.refl _ | (refine Kept.setCell ?_ (kept_side (by first | assumption | omega)) _) | apply Kept.alloc | apply Kept.drew)
            · simp [Blk, *]
            clear hg26
            rintro X44 ⟨hk, Bg26⟩
            have k' := k.trans hk
            clear k
            have k := k'
            clear k'
            clear hk
            go_wp2_with fail
            refine (HS.out _).mono ?_
            rintro e X45 ⟨rfl, hk⟩
            have k' := k.trans hk
            have Bg26' := Bg26.kept hk
            clear k Bg26
            have k := k'
            clear k'
            have Bg26 := Bg26'
            clear Bg26'
            clear hk
            have d0 := Bg26.cell 0 rfl
            have d1 := Bg26.cell 1 rfl
            go_wp2_with fail
            go_ret
            exact ⟨rfl, k⟩
          · obtain ⟨rfl, r0, r1, e, b, heb, hv, hv2⟩ := h
            have HV := Lib.hid hv
            have HV2 := Lib.hid hv2
            clear hv hv2
            go_wp2_with fail
            refine (HV.out _ k).mono ?_
            rintro e X46 ⟨rfl, hk⟩
            have k' := k.trans hk
            clear k
            have k := k'
            clear k'
            clear hk B
            obtain ⟨g26, hg26⟩ : ∃ g, X46.heap.size = g := ⟨_, rfl⟩
            have ng26 : w.heap.size ≤ g26 := hg26 ▸ k.size
            go_upto_region 40 with (fail)
            try simp only [hg26]
            refine abs_world (fun W => Kept X46 W ∧ Blk W g26 28 #[.int .u64 r0, .int .u64 r1]) ⟨?_, ?_⟩ ?_
            · have nw8 : X46.heap.size ≤ g26 := by omega
              repeat (first | exact Kept.refl _ | (refine Kept.setCell ?_ (kept_side (by first | assumption | omega)) _) | apply Kept.alloc | apply Kept.drew)
            · simp [Blk, *]
            clear hg26
            rintro X47 ⟨hk, Bg26⟩
            have k' := k.trans hk
            clear k
            have k := k'
            clear k'
            clear hk
            go_wp2_with fail
            refine (HS.out _).mono ?_
            rintro e X48 ⟨rfl, hk⟩
            have k' := k.trans hk
            have Bg26' := Bg26.kept hk
            clear k Bg26
            have k := k'
            clear k'
            have Bg26 := Bg26'
            clear Bg26'
            clear hk
            go_wp2_with fail
            refine (HV2.out _ k).mono ?_
            rintro x X49 ⟨rfl, hk⟩
            have k' := k.trans hk
            have Bg26' := Bg26.kept hk
            clear k Bg26
            have k := k'
            clear k'
            have Bg26 := Bg26'
            clear Bg26'
            clear hk
            obtain ⟨g28, hg28⟩ : ∃ g, X49.heap.size = g := ⟨_, rfl⟩
            have ng28 : w.heap.size ≤ g28 := hg28 ▸ k.size
            go_upto_region 43 with (fail)
            try simp only [hg28]
            refine abs_world (fun W => Kept X49 W ∧ Blk W g28 28 #[.int .u64 r0, .int .u64 r1]) ⟨?_, ?_⟩ ?_
            · have nw8 : X49.heap.size ≤ g28 := by omega
              repeat (first | exact Kept.refl _ | (refine Kept.setCell ?_ (kept_side (by first | assumption | omega)) _) | apply Kept.alloc | apply Kept.drew)
            · simp [Blk, *]
            clear hg28
            rintro X50 ⟨hk, Bg28⟩
            have k' := k.trans hk
            have Bg26' := Bg26.kept hk
            clear k Bg26
            have k := k'
            clear k'
            have Bg26 := Bg26'
            clear Bg26'
            clear hk
            have d0 := Bg26.cell 0 rfl
            have d1 := Bg26.cell 1 rfl
            have d2 := Bg28.cell 0 rfl
            have d3 := Bg28.cell 1 rfl
            go_wp2_with fail
            go_ret
            exact ⟨rfl, k⟩

end Go.Proofs.Ytnajihlhcdedgaa
