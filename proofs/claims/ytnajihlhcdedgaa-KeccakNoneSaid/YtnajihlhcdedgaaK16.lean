/-
  The reference's Hash.
-/
import Derived.Test.YtnajihlhcdedgaaK15
import Derived.Test.YtnajihlhcdedgaaG7
namespace Go.Proofs.Ytnajihlhcdedgaa
open Go.RowKit
set_option linter.unusedVariables false
set_option linter.unusedSimpArgs false

theorem calm_load_part {P : Program} {a : Act} {w : World} {o : Oper} (ty : TypeId) (x : Operand) {g : Nat} {t : TypeId} {n m k : Nat} {e : TypeId} {f : Nat → Value} (B : Blk w g t (rowF n f)) (hm : m ≤ n) (hu : P.underlying ty = some (.array k e)) (hi : (P.info? ty).map (·.size) = some m)
    (ho : o.op = .load ty x) (hx : a.eval x = .pointer (some ⟨g, 0, none⟩)) : calm P o a w (.agg (rowF m f)) :=
  calm_run _ fun w' hk => by
    obtain ⟨dst, op, type, pos, after, guard⟩ := o
    simp only at ho
    subst ho
    simp only [execOp, hx, Instr.loadAt, Instr.sureAddr, Sem.run_bind, Sem.run_pure, Result.andThen_ok, run_loadVar_part w' g t ty f (B.kept hk) hm hu hi]
theorem part25 {w : World} {g : Nat} {f h : Nat → Value} (B : Blk w g 60 (rowF 25 f)) : Blk (w.setRow g (rowF 25 (fun i => if i < 25 then h i else f i))) g 60 (rowF 25 h) := by
  have := B.setRow (rowF 25 (fun i => if i < 25 then h i else f i))
  rw [rowF_congr (f := h) (g := fun i => if i < 25 then h i else f i) fun j hj => by rw [if_pos hj]]
  exact this
theorem ownsRow_setRow {w : World} {base : Nat} {e : TypeId} {size : Nat} {v : Value} {n : Nat} {xs : List Value} (h : w.ownsRow base e size v n xs) {g : Nat} (hg : g < base) (cs : Array Value) : (w.setRow g cs).ownsRow base e size v n xs :=
  ownsRow_touch h (Touch.setRow g w cs) hg
def lenV : Value → Nat
  | .slice _ n _ => n
  | _ => 0
theorem ownsRow_slice1 {w : World} {base : Nat} {e : TypeId} {v : Value} {n : Nat} {xs : List Value} (h : w.ownsRow base e 1 v n xs) : ∃ a c, v = .slice a n c := by
  rcases h.2 with ⟨rfl, rfl⟩ | ⟨g, cap, cur, rfl, _⟩
  · exact ⟨_, _, rfl⟩
  · exact ⟨_, _, rfl⟩
theorem rbytes_succ (s : Nat → Int) (j x : Nat) (hx : x < 168) : rbytes s (168 * j + x + 1) = rbytes s (168 * j + x) ++ [.int .u8 (sq s (j + 1) (x / 8) / 256 ^ (x % 8) % 256)] := by
  have h : rbyte s (168 * j + x) = sq s (j + 1) (x / 8) / 256 ^ (x % 8) % 256 := by
    unfold rbyte
    rw [byteAt_256, show (168 * j + x) / 168 = j by omega, show (168 * j + x) % 168 = x by omega]
  rw [← h]
  unfold rbytes
  rw [List.range_succ, List.map_append, List.map_singleton]
theorem preS_in (C : Nat → Int) (k r : Nat) (d : Int) : ∀ i, i < 25 → in64 (preS C k r d i) := by
  intro i hi
  refine kflip_in (kflip_in ?_ _ _) _ _ i hi
  intro i hi
  unfold norm
  split
  · exact kround_in _ _ _
  · exact chain_in (blockS_in C k) r i hi

set_option maxRecDepth 100000 in
set_option maxHeartbeats 4000000 in
theorem r_Hash (w : World) (d : Int) (d0 : 1 ≤ d) (d1 : d ≤ 127) (sl : Option Addr) (n cap gs o : Nat) (C : Nat → Int) (hA : n = 0 ∨ sl = some ⟨gs, o, none⟩) (hnc : n ≤ cap) (hcap : (cap : Int) ≤ 9223372036854775807)
    (hC : Hid (∀ j, j < n → w.cell? ⟨gs, o + j, none⟩ = some (.int .u8 (C j)))) (hby : Hid (∀ j, j < n → 0 ≤ C j ∧ C j ≤ 255)) (many : Nat) (hm : many ≤ 65536) (K r : Nat) (hKr : Hid (n = 168 * K + r)) (hr : r ≤ 168) (hK : K = 0 ∨ 0 < r) :
    Calls Try.prog 64 #[.int .u8 d, .slice sl n cap, .int .i64 (many : Int)] w fun e w' => ∃ v, e = .returned v ∧ Kept w w' ∧ w'.ownsRow w.heap.size 5 1 v many (rbytes (preS C K r d) many) := by
  have hpre := preS_in C K r d
  have HPR : Hid (preS C K r d = kflip (kflip (norm (chain (blockS C K) (fun i => C (168 * K + i)) r) r) (normA r) d) 167 128) := Lib.hid rfl
  have HPS : Hid (∀ i, i < 25 → in64 (preS C K r d i)) := Lib.hid hpre
  generalize preS C K r d = pre at *
  clear hpre
  obtain ⟨g, hg⟩ : ∃ g, w.heap.size = g := ⟨_, rfl⟩
  have nw : w.heap.size ≤ g := by omega
  go_enter Try.func64, Try.ntmps64
  go_upto_region 2 with (fail)
  try simp only [hg]
  refine abs_world (fun W => Kept w W ∧ Blk W g 60 (rowF 25 (fun p => .int .u64 (blockS C 0 p)))) ⟨(Kept.refl w).alloc _, by rw [← hg]; exact Blk.new _ _ _⟩ ?_
  rintro W0 ⟨k0, B0⟩
  go_loopw [1] (fun v wr => ∃ j m c a, v = .slice a m c ∧ j ≤ K ∧ Hid (m + 168 * j = n) ∧ Hid (c + 168 * j = cap) ∧ (m = 0 ∨ a = some ⟨gs, o + 168 * j, none⟩) ∧ Kept w wr ∧ Blk wr g 60 (rowF 25 (fun p => .int .u64 (blockS C j p)))) (fun v _ => lenV v)
  case atStart => exact ⟨0, n, cap, sl, rfl, Nat.zero_le _, Lib.hid rfl, Lib.hid rfl, hA, k0, B0⟩
  case round =>
    clear k0 B0
    obtain ⟨j, m, c, a, rfl, hjK, hmn, hcc, hA2, k, B⟩ := hrel
    have hmc : m ≤ c := by have := hmn.out; have := hcc.out; omega
    rcases Nat.lt_or_ge 168 m with hlt | hge
    · obtain rfl : a = some ⟨gs, o + 168 * j, none⟩ := by rcases hA2 with h | h; omega; exact h
      clear hA2
      have y1 : (168 : Int) < (m : Int) := by omega
      have hc168 : c ≠ 168 := by omega
      have hchain := chain_in (D := fun i => C (168 * j + i)) (blockS_in C j)
      have HQ := Lib.hid (r_permute (hchain 168))
      have HS : Hid (blockS C (j + 1) = kperm 12 (chain (blockS C j) (fun i => C (168 * j + i)) 168)) := Lib.hid rfl
      obtain ⟨po, hpo⟩ : ∃ po, o + 168 * j = po := ⟨_, rfl⟩
      rw [hpo]
      have HPO := Lib.hid hpo
      clear hpo
      have HC2 : Hid (∀ i, i < 168 → w.cell? ⟨gs, po + i, none⟩ = some (.int .u8 (C (168 * j + i)))) := Lib.hid fun i hi => by
        have := hC.out (168 * j + i) (by have := hmn.out; omega)
        rw [← HPO.out, Nat.add_assoc]
        exact this
      have HB2 : Hid (∀ i, i < 168 → 0 ≤ C (168 * j + i) ∧ C (168 * j + i) ≤ 255) := Lib.hid fun i hi => hby.out (168 * j + i) (by have := hmn.out; omega)
      have HD : Hid (∀ i, chain (blockS C j) (fun i => C (168 * j + i)) (i + 1) = kflip (chain (blockS C j) (fun i => C (168 * j + i)) i) i (C (168 * j + i))) := Lib.hid fun i => rfl
      have HJ : Hid (j < K) := Lib.hid (by have := hmn.out; have := hKr.out; omega)
      have B' : Blk _ g 60 (rowF 25 (fun p => .int .u64 (chain (blockS C j) (fun i => C (168 * j + i)) 0 p))) := B
      clear B
      generalize chain (blockS C j) (fun i => C (168 * j + i)) = ch at *
      go_wp2_with fail
      go_loopw [8] (fun t wr => ∃ i : Nat, i ≤ 168 ∧ t = .int .i64 i ∧ Kept w wr ∧ Blk wr g 60 (rowF 25 (fun p => .int .u64 (ch i p)))) (fun t _ => 168 - (intOf t).toNat)
      case atStart => exact ⟨0, Nat.zero_le _, rfl, k, B'⟩
      case round =>
        clear k B'
        obtain ⟨i, hi, rfl, k, B⟩ := hrel
        have zi : (0 : Int) ≤ (i : Int) := by omega
        rcases Nat.lt_or_ge i 168 with hlt2 | hge2
        · have y2 : (i : Int) < 168 := by omega
          have y3 : (i : Int) < (m : Int) := by omega
          have cq := k.cell (HC2.out i hlt2)
          obtain ⟨cb0, cb1⟩ := HB2.out i hlt2
          have HDi := Lib.hid (HD.out i)
          generalize C (168 * j + i) = cb at *
          have HA := Lib.hid (r_add (ch i) i (by omega) cb cb0 cb1)
          generalize ch i = u at *
          go_upto_region 6 with (fail)
          refine wp_region_calm 7 (by kernel_rfl) (by kernel_rfl) ?_
          simp only [List.take_succ_cons, List.take_zero, List.drop_succ_cons, List.drop_zero]
          refine calm_step _ rfl (calm_load_part 60 (.tmp 7) B (Nat.le_refl _) Try.underlying60 size60 rfl rfl) ?_
          simp only [Act.put, List.setIfInBounds_toArray, List.set_cons_zero, List.set_cons_succ]
          repeat (first
            | (refine calm_ex rfl ?_; apply Exists.intro; refine And.intro (fun w' hk => ?_) ?_; (focus (have q0 := hk.cell cq; clear hk; go_simp; exact rfl)); simp only [Act.put, List.setIfInBounds_toArray, List.set_cons_zero, List.set_cons_succ])
            | (refine calm_step _ rfl (HA.out.call ?_) ?_; (focus (intro w'; go_simp; done)); simp only [Act.put, List.setIfInBounds_toArray, List.set_cons_zero, List.set_cons_succ]))
          refine calm_nil ?_
          intro W2 hkW2
          have k2 := k.trans hkW2
          have B2 := B.kept hkW2
          clear k B cq hkW2
          go_wp2_with (refine wpList_store_part (h' := fun p => .int .u64 (kflip u i cb p)) 60 (.tmp 7) (.tmp 27) B2 (Nat.le_refl _) size60 (fun _ => rfl) rfl rfl rfl rfl ?_)
          go_roundw
          case rel => exact ⟨i + 1, by omega, by go_num, k2.setRow nw _, by rw [HDi.out]; exact part25 B2⟩
          case measure => simp [intOf]; omega
        · have y2 : (168 : Int) ≤ (i : Int) := by omega
          obtain rfl : i = 168 := by omega
          go_wp2_with (refine wpList_load_part 60 (.tmp 7) B (Nat.le_refl _) Try.underlying60 size60 rfl rfl rfl ?_)
          refine (HQ.out _).mono ?_
          rintro e W3 ⟨rfl, hk3⟩
          have k3 := k.trans hk3
          have B3 := B.kept hk3
          clear k B hk3
          go_wp2_with (refine wpList_store_part (h' := fun p => .int .u64 (kperm 12 (ch 168) p)) 60 (.tmp 7) (.tmp 29) B3 (Nat.le_refl _) size60 (fun _ => rfl) rfl rfl rfl rfl ?_)
          go_roundw
          case rel => exact ⟨j + 1, m - 168, c - 168, _, rfl, HJ.out, Lib.hid (by have := hmn.out; omega), Lib.hid (by have := hcc.out; omega), .inr (by rw [← HPO.out]; simp [Addr.add_lit, Nat.mul_add, Nat.add_assoc]), k3.setRow nw _, by rw [HS.out]; exact part25 B3⟩
          case measure => simp [lenV]; omega
    · have hjK2 : j = K := by have := hmn.out; have := hKr.out; omega
      subst hjK2
      obtain rfl : m = r := by have := hmn.out; have := hKr.out; omega
      have y1 : (m : Int) ≤ 168 := by omega
      have hchain := chain_in (D := fun i => C (168 * j + i)) (blockS_in C j)
      have HD : Hid (∀ i, chain (blockS C j) (fun i => C (168 * j + i)) (i + 1) = kflip (chain (blockS C j) (fun i => C (168 * j + i)) i) i (C (168 * j + i))) := Lib.hid fun i => rfl
      have HC2 : Hid (∀ i, i < m → a = some ⟨gs, o + 168 * j, none⟩ ∧ w.cell? ⟨gs, o + 168 * j + i, none⟩ = some (.int .u8 (C (168 * j + i)))) := Lib.hid fun i hi => by
        have := hC.out (168 * j + i) (by have := hmn.out; omega)
        rw [Nat.add_assoc]
        exact ⟨by rcases hA2 with h | h; omega; exact h, this⟩
      have HB2 : Hid (∀ i, i < m → 0 ≤ C (168 * j + i) ∧ C (168 * j + i) ≤ 255) := Lib.hid fun i hi => hby.out (168 * j + i) (by have := hmn.out; omega)
      have B' : Blk _ g 60 (rowF 25 (fun p => .int .u64 (chain (blockS C j) (fun i => C (168 * j + i)) 0 p))) := B
      clear B hA2
      generalize chain (blockS C j) (fun i => C (168 * j + i)) = ch at *
      go_wp2_with fail
      go_loopw [9] (fun t wr => ∃ i : Nat, i ≤ m ∧ t = .int .i64 i ∧ Kept w wr ∧ Blk wr g 60 (rowF 25 (fun p => .int .u64 (ch i p)))) (fun t _ => m - (intOf t).toNat)
      case atStart => exact ⟨0, Nat.zero_le _, rfl, k, B'⟩
      case round =>
        clear k B'
        obtain ⟨i, hi, rfl, k, B⟩ := hrel
        have zi : (0 : Int) ≤ (i : Int) := by omega
        rcases Nat.lt_or_ge i m with hlt2 | hge2
        · have y3 : (i : Int) < (m : Int) := by omega
          obtain ⟨rfl, cq0⟩ := HC2.out i hlt2
          have cq := k.cell cq0
          clear cq0
          obtain ⟨cb0, cb1⟩ := HB2.out i hlt2
          have HDi := Lib.hid (HD.out i)
          generalize C (168 * j + i) = cb at *
          have HA := Lib.hid (r_add (ch i) i (by omega) cb cb0 cb1)
          generalize ch i = u at *
          generalize o + 168 * j = po at *
          go_upto_region 12 with (fail)
          refine wp_region_calm 7 (by kernel_rfl) (by kernel_rfl) ?_
          simp only [List.take_succ_cons, List.take_zero, List.drop_succ_cons, List.drop_zero]
          refine calm_step _ rfl (calm_load_part 60 (.tmp 7) B (Nat.le_refl _) Try.underlying60 size60 rfl rfl) ?_
          simp only [Act.put, List.setIfInBounds_toArray, List.set_cons_zero, List.set_cons_succ]
          repeat (first
            | (refine calm_ex rfl ?_; apply Exists.intro; refine And.intro (fun w' hk => ?_) ?_; (focus (have q0 := hk.cell cq; clear hk; go_simp; exact rfl)); simp only [Act.put, List.setIfInBounds_toArray, List.set_cons_zero, List.set_cons_succ])
            | (refine calm_step _ rfl (HA.out.call ?_) ?_; (focus (intro w'; go_simp; done)); simp only [Act.put, List.setIfInBounds_toArray, List.set_cons_zero, List.set_cons_succ]))
          refine calm_nil ?_
          intro W2 hkW2
          have k2 := k.trans hkW2
          have B2 := B.kept hkW2
          clear k B cq hkW2
          go_wp2_with (refine wpList_store_part (h' := fun p => .int .u64 (kflip u i cb p)) 60 (.tmp 7) (.tmp 44) B2 (Nat.le_refl _) size60 (fun _ => rfl) rfl rfl rfl rfl ?_)
          go_roundw
          case rel => exact ⟨i + 1, by omega, by go_num, k2.setRow nw _, by rw [HDi.out]; exact part25 B2⟩
          case measure => simp [intOf]; omega
        · have y2 : (m : Int) ≤ (i : Int) := by omega
          obtain rfl : i = m := by omega
          have hu := hchain i
          clear hchain HD HC2 HB2
          generalize ch i = u at *
          by_cases h168 : i = 168
          · subst h168
            have HQ := Lib.hid (r_permute hu)
            have ha1 : Pure Try.prog 126 #[.agg (rowF 25 (fun p => .int .u64 (kperm 12 u p))), .int .i64 0, .int .u8 d] _ := r_add (kperm 12 u) 0 (by omega) d (by omega) (by omega)
            have HA1 := Lib.hid ha1
            have ha2 : Pure Try.prog 126 #[.agg (rowF 25 (fun p => .int .u64 (kflip (kperm 12 u) 0 d p))), .int .i64 167, .int .u8 128] _ := r_add (kflip (kperm 12 u) 0 d) 167 (by omega) 128 (by omega) (by omega)
            have HA2 := Lib.hid ha2
            have HPP : Hid (pre = kflip (kflip (kperm 12 u) 0 d) 167 128) := Lib.hid HPR.out
            clear ha1 ha2 hu
            go_wp2_with (refine wpList_load_part 60 (.tmp 7) B (Nat.le_refl _) Try.underlying60 size60 rfl rfl rfl ?_)
            refine (HQ.out _).mono ?_
            rintro e W1 ⟨rfl, hk1⟩
            have k1 := k.trans hk1
            have B1 := B.kept hk1
            clear k B hk1
            go_upto_region 15 with (refine wpList_store_part (h' := fun p => .int .u64 (kperm 12 u p)) 60 (.tmp 7) (.tmp 49) B1 (Nat.le_refl _) size60 (fun _ => rfl) rfl rfl rfl rfl ?_)
            refine abs_world (fun W => Kept w W ∧ Blk W g 60 (rowF 25 (fun p => .int .u64 (kperm 12 u p)))) ⟨k1.setRow (by omega) _, part25 B1⟩ ?_
            clear k1 B1
            rintro W4 ⟨k, B⟩
            go_wp2_with (refine wpList_load_part 60 (.tmp 7) B (Nat.le_refl _) Try.underlying60 size60 rfl rfl rfl ?_)
            refine (HA1.out _).mono ?_
            rintro e W1 ⟨rfl, hk1⟩
            have k1 := k.trans hk1
            have B1 := B.kept hk1
            clear k B hk1
            go_upto_region 17 with (refine wpList_store_part (h' := fun p => .int .u64 (kflip (kperm 12 u) 0 d p)) 60 (.tmp 7) (.tmp 52) B1 (Nat.le_refl _) size60 (fun _ => rfl) rfl rfl rfl rfl ?_)
            refine abs_world (fun W => Kept w W ∧ Blk W g 60 (rowF 25 (fun p => .int .u64 (kflip (kperm 12 u) 0 d p)))) ⟨k1.setRow (by omega) _, part25 B1⟩ ?_
            clear k1 B1
            rintro W5 ⟨k, B⟩
            go_wp2_with (refine wpList_load_part 60 (.tmp 7) B (Nat.le_refl _) Try.underlying60 size60 rfl rfl rfl ?_)
            refine (HA2.out _).mono ?_
            rintro e W1 ⟨rfl, hk1⟩
            have k1 := k.trans hk1
            have B1 := B.kept hk1
            clear k B hk1
            go_upto_region 18 with (refine wpList_store_part (h' := fun p => .int .u64 (kflip (kflip (kperm 12 u) 0 d) 167 128 p)) 60 (.tmp 7) (.tmp 59) B1 (Nat.le_refl _) size60 (fun _ => rfl) rfl rfl rfl rfl ?_)
            refine abs_world (fun W => Kept w W ∧ Blk W g 60 (rowF 25 (fun p => .int .u64 (kflip (kflip (kperm 12 u) 0 d) 167 128 p)))) ⟨k1.setRow (by omega) _, part25 B1⟩ ?_
            clear k1 B1
            rintro W6 ⟨k, B⟩
            rw [← HPP.out] at B
            have hpre := HPS.out
            have B7 : Blk _ g 60 (rowF 25 (fun p => .int .u64 (sq pre 0 p))) := B
            have k7 := k
            go_wp2_with fail
            go_loopw [10] (fun v wr => ∃ j i, (i = 168 * j ∧ i ≤ many ∨ i = many ∧ i ≤ 168 * j) ∧ wr.ownsRow (g + 1) 5 1 v i (rbytes pre i) ∧ Kept w wr ∧ Blk wr g 60 (rowF 25 (fun p => .int .u64 (sq pre j p)))) (fun v _ => many - lenV v)
            case atStart => exact ⟨0, 0, .inl ⟨rfl, Nat.zero_le _⟩, World.ownsRow_nil _ _ _ _, k7, B7⟩
            case round =>
              clear k7 B7 k B
              obtain ⟨j, i, hij, hown, k, B⟩ := hrel
              obtain ⟨va, vc, rfl⟩ := ownsRow_slice1 hown
              rcases Nat.lt_or_ge i many with hlt | hge
              · have y1 : (i : Int) < (many : Int) := by omega
                have HI : Hid (i = 168 * j) := Lib.hid (by omega)
                have hsq := sq_in hpre j
                have HQ := Lib.hid (r_permute hsq)
                have HS : Hid (sq pre (j + 1) = kperm 12 (sq pre j)) := Lib.hid rfl
                have hin : ∀ p, p < 25 → in64 (kperm 12 (sq pre j) p) := fun p _ => kround_in _ _ _
                have HIN := Lib.hid hin
                clear hin hsq hij
                generalize sq pre j = u at *
                go_upto_region 21 with (refine wpList_load_part 60 (.tmp 7) B (Nat.le_refl _) Try.underlying60 size60 rfl rfl rfl ?_)
                refine (HQ.out _).mono ?_
                rintro e W8 ⟨rfl, hk8⟩
                have k8 := k.trans hk8
                have B8 := B.kept hk8
                have hown8 := ownsRow_kept hown hk8
                clear k B hown hk8
                go_upto_region 21 with (refine wpList_store_part (h' := fun p => .int .u64 (kperm 12 u p)) 60 (.tmp 7) (.tmp 65) B8 (Nat.le_refl _) size60 (fun _ => rfl) rfl rfl rfl rfl ?_)
                refine abs_world (fun W => Kept w W ∧ Blk W g 60 (rowF 25 (fun p => .int .u64 (kperm 12 u p))) ∧ W.ownsRow (g + 1) 5 1 (.slice va i vc) i (rbytes pre i)) ⟨k8.setRow (by omega) _, part25 B8, ownsRow_setRow hown8 (by omega) _⟩ ?_
                rintro W9 ⟨k9, B9, hown9⟩
                clear k8 B8 hown8
                go_wp2_with fail
                go_loopw [10, 11] (fun v t wr => ∃ x, x ≤ 168 ∧ t = .int .i64 ((x : Nat) : Int) ∧ i + x ≤ many ∧ wr.ownsRow (g + 1) 5 1 v (i + x) (rbytes pre (i + x)) ∧ Kept w wr ∧ Blk wr g 60 (rowF 25 (fun p => .int .u64 (kperm 12 u p)))) (fun _ t _ => 168 - (intOf t).toNat)
                case atStart => exact ⟨0, Nat.zero_le _, rfl, by omega, hown9, k9, B9⟩
                case round =>
                  clear k9 B9 hown9
                  obtain ⟨x, hx, rfl, hxm, hown, k, B⟩ := hrel
                  obtain ⟨va, vc, rfl⟩ := ownsRow_slice1 hown
                  have zx : (0 : Int) ≤ (x : Int) := by omega
                  obtain ⟨z, hz⟩ : ∃ z, i + x = z := ⟨_, rfl⟩
                  rw [hz] at hxm hown ⊢
                  rcases Nat.lt_or_ge x 168 with hx168 | hx168
                  · have y2 : (x : Int) < 168 := by omega
                    rcases Nat.lt_or_ge z many with hlm | hlm
                    · have y3 : (z : Int) < (many : Int) := by omega
                      have HB : Hid (rbytes pre (z + 1) = rbytes pre z ++ [.int .u8 (kperm 12 u (x / 8) / 256 ^ (x % 8) % 256)]) := Lib.hid (by have h9 := rbytes_succ pre j x hx168; rw [← HI.out, hz, HS.out] at h9; exact h9)
                      have HZ := Lib.hid hz
                      clear hz
                      obtain ⟨q, hq, hq25⟩ : ∃ q, x / 8 = q ∧ q < 25 := ⟨_, rfl, by omega⟩
                      obtain ⟨r2, hr2, hr8⟩ : ∃ r2, x % 8 = r2 ∧ r2 < 8 := ⟨_, rfl, by omega⟩
                      rw [hq, hr2] at HB
                      have e1 : (x : Int).tdiv 8 = (q : Int) := by rw [Int.tdiv_eq_ediv_of_nonneg (by omega)]; omega
                      have e1' : (x : Int) / 8 = (q : Int) := by omega
                      have e2 : (x : Int).tmod 8 = (r2 : Int) := by rw [Int.tmod_eq_emod_of_nonneg (by omega)]; omega
                      have e2' : (x : Int) % 8 = (r2 : Int) := by omega
                      have w1 : IntKind.i64.wrap (q : Int) = (q : Int) := IntWalk.i64_in _ (by omega)
                      have z1 : (0 : Int) ≤ (q : Int) := by omega
                      have z2 : (q : Int) < 25 := by omega
                      clear hq hr2
                      have cl := B.at (i := q) hq25
                      obtain ⟨x0, hx0, hx0a, hx0b⟩ : ∃ x0, kperm 12 u q = x0 ∧ 0 ≤ x0 ∧ x0 ≤ 18446744073709551615 := ⟨_, rfl, by have := HIN.out q hq25; unfold in64 at this; omega, by have := HIN.out q hq25; unfold in64 at this; omega⟩
                      rw [hx0] at cl HB
                      clear hx0
                      go_wp2_with fail
                      go_loop [12, 13] (fun v t => ∃ kk : Nat, kk ≤ r2 ∧ t = .int .i64 kk ∧ ∃ y : Int, 0 ≤ y ∧ y ≤ 18446744073709551615 ∧ v = .int .u64 y ∧ Hid (y = x0 / 256 ^ kk)) (fun _ t => r2 - (intOf t).toNat)
                      case atStart => exact ⟨0, Nat.zero_le _, rfl, x0, hx0a, hx0b, rfl, by show x0 = x0 / 256 ^ 0; simp⟩
                      case round =>
                        obtain ⟨kk, hkk, rfl, y, hy0, hy1, rfl, hy⟩ := hrel
                        rcases Nat.lt_or_ge kk r2 with hkl | hkl
                        · have y5 : (kk : Int) < (r2 : Int) := by omega
                          go_wp2_with fail
                          go_round
                          case rel => exact ⟨kk + 1, by omega, by go_num, y / 256, by omega, by omega, rfl, by show _ = _; rw [hy.out, div256_succ]⟩
                          case measure => simp [intOf]; omega
                        · have hkm : Hid (kk = r2) := by show kk = r2; omega
                          have hby : Hid (x0 / 256 ^ r2 % 256 = y % 256) := by show x0 / 256 ^ r2 % 256 = y % 256; rw [hy.out, hkm.out]
                          have y5 : (r2 : Int) ≤ (kk : Int) := by omega
                          clear hkl
                          have hbase : g + 1 ≤ _ := B.lt
                          go_wp2_with (at_builtin; refine wpList_append_one 42 5 info5 Try.underlying42 rfl (by decide) hown [.int .u8 (y % 256)] rfl (by intro u hu; simp at hu; subst hu; rfl) (by omega) (by decide) hbase (.tmp 88) (.tmp 92) rfl rfl rfl rfl ?_; intro v' w1 hown3 hgrow hne)
                          have kw1 := grown_kept k hown hgrow (by omega)
                          have Bw1 := grown_blk B hown hgrow (by omega)
                          clear hown hgrow hbase B k
                          go_wp2_with fail
                          go_roundw
                          case rel => exact ⟨x + 1, by omega, by go_num, by have := HZ.out; omega, by rw [← Nat.add_assoc, HZ.out, HB.out, hby.out]; exact hown3, kw1, Bw1⟩
                          case measure => simp [intOf]; omega
                    · have y3 : (many : Int) ≤ (z : Int) := by omega
                      have HZ := Lib.hid hz
                      clear hz
                      go_wp2_with fail
                      go_roundw
                      case rel => exact ⟨j + 1, z, .inr ⟨by omega, by have := HZ.out; have := HI.out; omega⟩, hown, k, by rw [HS.out]; exact B⟩
                      case measure => simp [lenV]; have := HZ.out; omega
                  · have y2 : (168 : Int) ≤ (x : Int) := by omega
                    have HZ := Lib.hid hz
                    clear hz
                    go_wp2_with fail
                    go_roundw
                    case rel => exact ⟨j + 1, z, .inl ⟨by have := HZ.out; have := HI.out; omega, by omega⟩, hown, k, by rw [HS.out]; exact B⟩
                    case measure => simp [lenV]; have := HZ.out; omega
              · have y1 : (many : Int) ≤ (i : Int) := by omega
                obtain rfl : i = many := by omega
                go_wp2_with fail
                go_ret
                exact ⟨_, rfl, k, ownsRow_base hown (by omega)⟩
          · have h168i : (i : Int) ≠ 168 := by omega
            have h168b : ((i : Int) == 168) = false := by simp [h168i]
            have ha1 := r_add u i (by omega) d (by omega) (by omega)
            have HA1 := Lib.hid ha1
            have ha2 : Pure Try.prog 126 #[.agg (rowF 25 (fun p => .int .u64 (kflip u i d p))), .int .i64 167, .int .u8 128] _ := r_add (kflip u i d) 167 (by omega) 128 (by omega) (by omega)
            have HA2 := Lib.hid ha2
            have HPP : Hid (pre = kflip (kflip u i d) 167 128) := Lib.hid (by have := HPR.out; unfold norm normA at this; rw [if_neg h168, if_neg h168] at this; exact this)
            clear ha1 ha2 hu
            go_wp2_with (refine wpList_load_part 60 (.tmp 7) B (Nat.le_refl _) Try.underlying60 size60 rfl rfl rfl ?_)
            refine (HA1.out _).mono ?_
            rintro e W1 ⟨rfl, hk1⟩
            have k1 := k.trans hk1
            have B1 := B.kept hk1
            clear k B hk1
            go_upto_region 17 with (refine wpList_store_part (h' := fun p => .int .u64 (kflip u i d p)) 60 (.tmp 7) (.tmp 57) B1 (Nat.le_refl _) size60 (fun _ => rfl) rfl rfl rfl rfl ?_)
            refine abs_world (fun W => Kept w W ∧ Blk W g 60 (rowF 25 (fun p => .int .u64 (kflip u i d p)))) ⟨k1.setRow (by omega) _, part25 B1⟩ ?_
            clear k1 B1
            rintro W5 ⟨k, B⟩
            go_wp2_with (refine wpList_load_part 60 (.tmp 7) B (Nat.le_refl _) Try.underlying60 size60 rfl rfl rfl ?_)
            refine (HA2.out _).mono ?_
            rintro e W1 ⟨rfl, hk1⟩
            have k1 := k.trans hk1
            have B1 := B.kept hk1
            clear k B hk1
            go_upto_region 18 with (refine wpList_store_part (h' := fun p => .int .u64 (kflip (kflip u i d) 167 128 p)) 60 (.tmp 7) (.tmp 59) B1 (Nat.le_refl _) size60 (fun _ => rfl) rfl rfl rfl rfl ?_)
            refine abs_world (fun W => Kept w W ∧ Blk W g 60 (rowF 25 (fun p => .int .u64 (kflip (kflip u i d) 167 128 p)))) ⟨k1.setRow (by omega) _, part25 B1⟩ ?_
            clear k1 B1
            rintro W6 ⟨k, B⟩
            rw [← HPP.out] at B
            have hpre := HPS.out
            have B7 : Blk _ g 60 (rowF 25 (fun p => .int .u64 (sq pre 0 p))) := B
            have k7 := k
            go_wp2_with fail
            go_loopw [10] (fun v wr => ∃ j i, (i = 168 * j ∧ i ≤ many ∨ i = many ∧ i ≤ 168 * j) ∧ wr.ownsRow (g + 1) 5 1 v i (rbytes pre i) ∧ Kept w wr ∧ Blk wr g 60 (rowF 25 (fun p => .int .u64 (sq pre j p)))) (fun v _ => many - lenV v)
            case atStart => exact ⟨0, 0, .inl ⟨rfl, Nat.zero_le _⟩, World.ownsRow_nil _ _ _ _, k7, B7⟩
            case round =>
              clear k7 B7 k B
              obtain ⟨j, i, hij, hown, k, B⟩ := hrel
              obtain ⟨va, vc, rfl⟩ := ownsRow_slice1 hown
              rcases Nat.lt_or_ge i many with hlt | hge
              · have y1 : (i : Int) < (many : Int) := by omega
                have HI : Hid (i = 168 * j) := Lib.hid (by omega)
                have hsq := sq_in hpre j
                have HQ := Lib.hid (r_permute hsq)
                have HS : Hid (sq pre (j + 1) = kperm 12 (sq pre j)) := Lib.hid rfl
                have hin : ∀ p, p < 25 → in64 (kperm 12 (sq pre j) p) := fun p _ => kround_in _ _ _
                have HIN := Lib.hid hin
                clear hin hsq hij
                generalize sq pre j = u at *
                go_upto_region 21 with (refine wpList_load_part 60 (.tmp 7) B (Nat.le_refl _) Try.underlying60 size60 rfl rfl rfl ?_)
                refine (HQ.out _).mono ?_
                rintro e W8 ⟨rfl, hk8⟩
                have k8 := k.trans hk8
                have B8 := B.kept hk8
                have hown8 := ownsRow_kept hown hk8
                clear k B hown hk8
                go_upto_region 21 with (refine wpList_store_part (h' := fun p => .int .u64 (kperm 12 u p)) 60 (.tmp 7) (.tmp 65) B8 (Nat.le_refl _) size60 (fun _ => rfl) rfl rfl rfl rfl ?_)
                refine abs_world (fun W => Kept w W ∧ Blk W g 60 (rowF 25 (fun p => .int .u64 (kperm 12 u p))) ∧ W.ownsRow (g + 1) 5 1 (.slice va i vc) i (rbytes pre i)) ⟨k8.setRow (by omega) _, part25 B8, ownsRow_setRow hown8 (by omega) _⟩ ?_
                rintro W9 ⟨k9, B9, hown9⟩
                clear k8 B8 hown8
                go_wp2_with fail
                go_loopw [10, 11] (fun v t wr => ∃ x, x ≤ 168 ∧ t = .int .i64 ((x : Nat) : Int) ∧ i + x ≤ many ∧ wr.ownsRow (g + 1) 5 1 v (i + x) (rbytes pre (i + x)) ∧ Kept w wr ∧ Blk wr g 60 (rowF 25 (fun p => .int .u64 (kperm 12 u p)))) (fun _ t _ => 168 - (intOf t).toNat)
                case atStart => exact ⟨0, Nat.zero_le _, rfl, by omega, hown9, k9, B9⟩
                case round =>
                  clear k9 B9 hown9
                  obtain ⟨x, hx, rfl, hxm, hown, k, B⟩ := hrel
                  obtain ⟨va, vc, rfl⟩ := ownsRow_slice1 hown
                  have zx : (0 : Int) ≤ (x : Int) := by omega
                  obtain ⟨z, hz⟩ : ∃ z, i + x = z := ⟨_, rfl⟩
                  rw [hz] at hxm hown ⊢
                  rcases Nat.lt_or_ge x 168 with hx168 | hx168
                  · have y2 : (x : Int) < 168 := by omega
                    rcases Nat.lt_or_ge z many with hlm | hlm
                    · have y3 : (z : Int) < (many : Int) := by omega
                      have HB : Hid (rbytes pre (z + 1) = rbytes pre z ++ [.int .u8 (kperm 12 u (x / 8) / 256 ^ (x % 8) % 256)]) := Lib.hid (by have h9 := rbytes_succ pre j x hx168; rw [← HI.out, hz, HS.out] at h9; exact h9)
                      have HZ := Lib.hid hz
                      clear hz
                      obtain ⟨q, hq, hq25⟩ : ∃ q, x / 8 = q ∧ q < 25 := ⟨_, rfl, by omega⟩
                      obtain ⟨r2, hr2, hr8⟩ : ∃ r2, x % 8 = r2 ∧ r2 < 8 := ⟨_, rfl, by omega⟩
                      rw [hq, hr2] at HB
                      have e1 : (x : Int).tdiv 8 = (q : Int) := by rw [Int.tdiv_eq_ediv_of_nonneg (by omega)]; omega
                      have e1' : (x : Int) / 8 = (q : Int) := by omega
                      have e2 : (x : Int).tmod 8 = (r2 : Int) := by rw [Int.tmod_eq_emod_of_nonneg (by omega)]; omega
                      have e2' : (x : Int) % 8 = (r2 : Int) := by omega
                      have w1 : IntKind.i64.wrap (q : Int) = (q : Int) := IntWalk.i64_in _ (by omega)
                      have z1 : (0 : Int) ≤ (q : Int) := by omega
                      have z2 : (q : Int) < 25 := by omega
                      clear hq hr2
                      have cl := B.at (i := q) hq25
                      obtain ⟨x0, hx0, hx0a, hx0b⟩ : ∃ x0, kperm 12 u q = x0 ∧ 0 ≤ x0 ∧ x0 ≤ 18446744073709551615 := ⟨_, rfl, by have := HIN.out q hq25; unfold in64 at this; omega, by have := HIN.out q hq25; unfold in64 at this; omega⟩
                      rw [hx0] at cl HB
                      clear hx0
                      go_wp2_with fail
                      go_loop [12, 13] (fun v t => ∃ kk : Nat, kk ≤ r2 ∧ t = .int .i64 kk ∧ ∃ y : Int, 0 ≤ y ∧ y ≤ 18446744073709551615 ∧ v = .int .u64 y ∧ Hid (y = x0 / 256 ^ kk)) (fun _ t => r2 - (intOf t).toNat)
                      case atStart => exact ⟨0, Nat.zero_le _, rfl, x0, hx0a, hx0b, rfl, by show x0 = x0 / 256 ^ 0; simp⟩
                      case round =>
                        obtain ⟨kk, hkk, rfl, y, hy0, hy1, rfl, hy⟩ := hrel
                        rcases Nat.lt_or_ge kk r2 with hkl | hkl
                        · have y5 : (kk : Int) < (r2 : Int) := by omega
                          go_wp2_with fail
                          go_round
                          case rel => exact ⟨kk + 1, by omega, by go_num, y / 256, by omega, by omega, rfl, by show _ = _; rw [hy.out, div256_succ]⟩
                          case measure => simp [intOf]; omega
                        · have hkm : Hid (kk = r2) := by show kk = r2; omega
                          have hby : Hid (x0 / 256 ^ r2 % 256 = y % 256) := by show x0 / 256 ^ r2 % 256 = y % 256; rw [hy.out, hkm.out]
                          have y5 : (r2 : Int) ≤ (kk : Int) := by omega
                          clear hkl
                          have hbase : g + 1 ≤ _ := B.lt
                          go_wp2_with (at_builtin; refine wpList_append_one 42 5 info5 Try.underlying42 rfl (by decide) hown [.int .u8 (y % 256)] rfl (by intro u hu; simp at hu; subst hu; rfl) (by omega) (by decide) hbase (.tmp 88) (.tmp 92) rfl rfl rfl rfl ?_; intro v' w1 hown3 hgrow hne)
                          have kw1 := grown_kept k hown hgrow (by omega)
                          have Bw1 := grown_blk B hown hgrow (by omega)
                          clear hown hgrow hbase B k
                          go_wp2_with fail
                          go_roundw
                          case rel => exact ⟨x + 1, by omega, by go_num, by have := HZ.out; omega, by rw [← Nat.add_assoc, HZ.out, HB.out, hby.out]; exact hown3, kw1, Bw1⟩
                          case measure => simp [intOf]; omega
                    · have y3 : (many : Int) ≤ (z : Int) := by omega
                      have HZ := Lib.hid hz
                      clear hz
                      go_wp2_with fail
                      go_roundw
                      case rel => exact ⟨j + 1, z, .inr ⟨by omega, by have := HZ.out; have := HI.out; omega⟩, hown, k, by rw [HS.out]; exact B⟩
                      case measure => simp [lenV]; have := HZ.out; omega
                  · have y2 : (168 : Int) ≤ (x : Int) := by omega
                    have HZ := Lib.hid hz
                    clear hz
                    go_wp2_with fail
                    go_roundw
                    case rel => exact ⟨j + 1, z, .inl ⟨by have := HZ.out; have := HI.out; omega, by omega⟩, hown, k, by rw [HS.out]; exact B⟩
                    case measure => simp [lenV]; have := HZ.out; omega
              · have y1 : (many : Int) ≤ (i : Int) := by omega
                obtain rfl : i = many := by omega
                go_wp2_with fail
                go_ret
                exact ⟨_, rfl, k, ownsRow_base hown (by omega)⟩
end Go.Proofs.Ytnajihlhcdedgaa
