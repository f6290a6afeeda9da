/-
  XofReal: the walk.
-/
import Derived.Test.YtnajihlhcdedgaaZX3
import Derived.Test.YtnajihlhcdedgaaZX5
import Derived.Test.YtnajihlhcdedgaaZX10
import Derived.Test.YtnajihlhcdedgaaZX11
namespace Go.Proofs.Ytnajihlhcdedgaa
open Go.RowKit
set_option linter.unusedVariables false
set_option linter.unusedSimpArgs false
attribute [local simp] blkAt_setCell blkAt_alloc blkAt_drew Obj.put_cells

theorem run_loadVar_add {ty : TypeId} {m : Nat} (hi : (Try.prog.info? ty).map (fun i => i.size) = some m) (w : World) (hagg : (isAgg ty).run Try.prog w = .ok true w) (p : Addr) (f : Nat → Value) (hc : ∀ j, j < m → w.cell? (p.add j) = some (f j)) :
    (loadVar ty p).run Try.prog w = .ok (.agg (rowF m f)) w := by
  have hl : (loadCells p (rowF m f).toList.length).run Try.prog w = .ok (rowF m f).toList.toArray w :=
    run_loadCells_list (P := Try.prog) w p (rowF m f).toList (fun j v hv => by
      have hj : j < m := by have := (List.getElem?_eq_some_iff.1 hv).1; simpa [rowF] using this
      rw [hc j hj, ← hv, Array.getElem?_toList, rowF_get hj])
  simp only [Array.length_toList, Array.toArray_toList, rowF_size] at hl
  cases hq : Try.prog.info? ty with
  | none => simp [hq] at hi
  | some i =>
    have hs : i.size = m := by simpa [hq] using hi
    simp [loadVar, Sem.run_bind, hagg, sizeOf, typeInfo, hq, hs, hl]
theorem agg79 (w : World) : (isAgg 79).run Try.prog w = .ok true w := by
  unfold isAgg
  rw [Sem.run_bind, run_underlying Try.underlying79 w]
  rfl
theorem agg77 (w : World) : (isAgg 77).run Try.prog w = .ok true w := by
  unfold isAgg
  rw [Sem.run_bind, run_underlying Try.underlying77 w]
  rfl
theorem wpList_load_add {ops : Array Oper} {rest : List Oper} {o : Oper} {a : Act} {w : World} {Q : Exit → Act → World → Prop} (ty : TypeId) (x : Operand) {p : Addr} {m : Nat} {f : Nat → Value} (hc : ∀ j, j < m → w.cell? (p.add j) = some (f j)) (hi : (Try.prog.info? ty).map (fun i => i.size) = some m) (hagg : ∀ w, (isAgg ty).run Try.prog w = .ok true w)
    (hgd : o.guard = none) (ho : o.op = .load ty x) (hx : a.eval x = .pointer (some p)) (h : wpList Try.prog ops Q rest (a.put o.dst (.agg (rowF m f))) w) : wpList Try.prog ops Q (o :: rest) a w := by
  refine wpList_plain hgd fun _ hK => ?_
  unfold Oper.wp execOp
  simp only [ho, hx, Instr.loadAt, Instr.sureAddr, Sem.run_bind, Sem.run_pure, Result.andThen_ok, run_loadVar_add hi w (hagg w) p f hc]
  exact hK _ _ h
theorem askF_one (T : ByteArray) (U : Int) (S : Nat → Int) (sl : Option Addr) (bn bc : Nat) (K mm : Int) (ag : Bool) (i : Nat) : (askF T U S sl bn bc K mm ag i).oneCell' = true := by
  unfold askF
  repeat (first | rfl | split)
def ask0 (i : Nat) : Value := (#[Value.string ⟨#[]⟩, .int .u16 0, .int .u8 0, .int .u8 0, .int .u8 0, .int .u8 0, .int .u8 0, .int .u8 0, .int .u8 0, .int .u8 0, .int .u8 0, .int .u8 0, .int .u8 0, .int .u8 0, .int .u8 0, .int .u8 0, .int .u8 0, .int .u8 0, .slice none 0 0, .int .u8 0, .int .i64 0, .bool false] : Array Value).getD i undef
theorem ask0_row : rowF 22 ask0 = #[Value.string ⟨#[]⟩, .int .u16 0, .int .u8 0, .int .u8 0, .int .u8 0, .int .u8 0, .int .u8 0, .int .u8 0, .int .u8 0, .int .u8 0, .int .u8 0, .int .u8 0, .int .u8 0, .int .u8 0, .int .u8 0, .int .u8 0, .int .u8 0, .int .u8 0, .slice none 0 0, .int .u8 0, .int .i64 0, .bool false] := rfl
theorem bytesV_R (l : List Int) : bytesV l = bytesR l.length (fun j => l.getD j 0) := by
  unfold bytesV bytesR
  apply List.ext_getElem?
  intro i
  rw [List.getElem?_map, List.getElem?_map]
  rcases Nat.lt_or_ge i l.length with hi | hi
  · simp [hi]
  · simp [hi]
theorem calm_convx {a : Act} {w : World} {o : Oper} {src dst : TypeId} {x : Operand} {v : Value} (hc : ∀ w', Kept w w' → (convert src dst (a.eval x)).run Try.prog w' = .ok v w') (ho : o.op = .convert src dst x) : calm Try.prog o a w v :=
  calm_run _ fun w' hk => by
    obtain ⟨dst', op, type, pos, after, guard⟩ := o
    simp only at ho
    subst ho
    simp [execOp, hc w' hk]

set_option maxRecDepth 100000 in
set_option maxHeartbeats 4000000 in
theorem xof_real_r (w : World) (a : Option Addr) (n cap : Nat) (hn63 : (n : Int) ≤ 9223372036854775807) (hA : SlA w a n cap) :
    Calls Try.prog 16 #[.slice a n cap] w fun e w' => e = .returned (.bool true) ∧ Kept w w' := by
  have HAw := Lib.hid x_Awake
  go_enter Try.func16, Try.ntmps16
  go_wp2_with fail
  refine (HAw.out _).mono ?_
  rintro e W1 ⟨rfl, k1⟩
  go_wp2_with fail
  refine (x_Real _).mono ?_
  rintro e W2 ⟨pb, rfl, hpb, hs, hk⟩
  have k2 := k1.trans hk
  clear k1 hk
  go_wp2_with fail
  go_loopw [18] (fun t wr => ∃ i : Nat, i ≤ n ∧ t = .int .i64 i ∧ Kept W2 wr) (fun t _ => n - (intOf t).toNat)
  case atStart => exact ⟨0, Nat.zero_le _, rfl, Kept.refl _⟩
  case round =>
    obtain ⟨i, hi, rfl, k⟩ := hrel
    have zi : (0 : Int) ≤ (i : Int) := by omega
    rcases Nat.lt_or_ge i n with hlt | hge
    · have yi : (i : Int) < (n : Int) := by omega
      obtain ⟨p, hip, T, U, S, sl, bn, bc, C, K, mm, ag, hask⟩ := hA.at' i hlt
      have hask1 := hask.kept (k2.trans k)
      obtain ⟨g5, hg5⟩ : ∃ g, wr.heap.size = g := ⟨_, rfl⟩
      have B0 : Blk (wr.alloc (.cells #[Value.string ⟨#[]⟩, .int .u16 0, .int .u8 0, .int .u8 0, .int .u8 0, .int .u8 0, .int .u8 0, .int .u8 0, .int .u8 0, .int .u8 0, .int .u8 0, .int .u8 0, .int .u8 0, .int .u8 0, .int .u8 0, .int .u8 0, .int .u8 0, .int .u8 0, .slice none 0 0, .int .u8 0, .int .i64 0, .bool false] 79)) g5 79 (rowF 22 ask0) := by
        rw [ask0_row, ← hg5]
        exact Blk.new wr 79 _
      go_upto_region 7 with (first | (refine wpList_load_add 79 (.tmp 21) hask1.cells size79 agg79 rfl rfl rfl ?_) | (refine wpList_store_part 79 (.tmp 5) (.tmp 22) B0 (Nat.le_refl _) size79 (askF_one T U S sl bn bc K mm ag) rfl rfl rfl rfl ?_))
      refine abs_world (fun W => Kept wr W ∧ Blk W g5 79 (rowF 22 (askF T U S sl bn bc K mm ag))) ⟨((Kept.refl wr).alloc _).setRow (by omega) _, ?_⟩ ?_
      · have B1 := B0.setRow (rowF 22 fun i => if i < 22 then askF T U S sl bn bc K mm ag i else ask0 i)
        rw [rowF_congr (f := askF T U S sl bn bc K mm ag) (g := fun i => if i < 22 then askF T U S sl bn bc K mm ag i else ask0 i) fun i hi => (if_pos hi).symm]
        exact B1
      rintro W3 ⟨hk, B3⟩
      have ltp := hs.lt
      have k3 := (k2.trans k).trans hk
      have kk3 := k.trans hk
      have hs3 := hs.kept kk3
      have hask3 := hask1.kept hk
      have l5 : g5 < W3.heap.size := B3.lt
      clear B0 hk k hask hask1
      have c0 : W3.cell? ⟨g5, 0, none⟩ = some (.string T) := B3.at (i := 0) (by omega)
      have c1 : W3.cell? ⟨g5, 1, none⟩ = some (.int .u16 U) := B3.at (i := 1) (by omega)
      have c18 : W3.cell? ⟨g5, 18, none⟩ = some (.slice sl bn bc) := B3.at (i := 18) (by omega)
      have c20 : W3.cell? ⟨g5, 20, none⟩ = some (.int .i64 mm) := B3.at (i := 20) (by omega)
      have harr : ∀ W, Kept W3 W → ∀ j, j < 16 → W.cell? ((⟨g5, 2, none⟩ : Addr).add j) = some (.int .u8 (S j)) := fun W hk j hj => by
        have h := (B3.kept hk).at (i := 2 + j) (by omega)
        rw [Addr.add_lit, h]
        unfold askF
        rw [if_neg (by omega), if_neg (by omega), if_pos (by omega), show 2 + j - 2 = j by omega]
      by_cases h10 : (10 : Int) < (i : Int)
      · clear harr
        go_wp2_with fail
        refine (x_Asked_real _ pb hs3).mono ?_
        rintro e W4 ⟨qa, qc, rfl, hk⟩
        have k4 := k3.trans hk
        go_wp2_with fail
        go_ret
        exact ⟨rfl, k4⟩
      have n10 : (i : Int) ≤ 10 := by omega
      by_cases h300 : (300 : Int) < (bn : Int)
      · clear harr
        go_wp2_with fail
        refine (x_Asked_real _ pb hs3).mono ?_
        rintro e W4 ⟨qa, qc, rfl, hk⟩
        have k4 := k3.trans hk
        go_wp2_with fail
        go_ret
        exact ⟨rfl, k4⟩
      have n300 : (bn : Int) ≤ 300 := by omega
      by_cases t300 : (300 : Int) < (T.size : Int)
      · clear harr
        go_wp2_with fail
        refine (x_Asked_real _ pb hs3).mono ?_
        rintro e W4 ⟨qa, qc, rfl, hk⟩
        have k4 := k3.trans hk
        go_wp2_with fail
        go_ret
        exact ⟨rfl, k4⟩
      have m300 : (T.size : Int) ≤ 300 := by omega
      by_cases t255 : (255 : Int) < (T.size : Int)
      · go_wp2_with (refine wpList_load_add 77 (.tmp 42) (harr _ (Kept.refl _)) size77 agg77 rfl rfl rfl ?_)
        refine (x_Stream_tag pb T t255 U S sl bn bc _).mono ?_
        rintro e W4 ⟨rfl, hk⟩
        have kk4 := kk3.trans hk
        have d0 := hk.cell c0
        clear c0 c1 c18 c20 harr
        go_wp2_with fail
        go_roundw
        case rel => exact ⟨i + 1, by omega, by go_num, kk4⟩
        case measure => simp [intOf]; omega
      · have m255 : (T.size : Int) ≤ 255 := by omega
        have hT : T.size ≤ 255 := by omega
        have hbn : bn ≤ 65536 := by omega
        obtain ⟨u0, hu0⟩ : ∃ u, U % 256 = u := ⟨_, rfl⟩
        obtain ⟨u1, hu1⟩ : ∃ u, U / 256 = u := ⟨_, rfl⟩
        have hU := hask3.use
        have iu0 : isByte u0 := by unfold isByte; omega
        have iu1 : isByte u1 := by unfold isByte; omega
        have hS : Hid (∀ j, j < 16 → isByte (S j)) := Lib.hid hask3.seed
        have hCB : Hid (∀ j, j < bn → isByte (C j)) := Lib.hid hask3.byte
        obtain ⟨ql, hql⟩ : ∃ l, qL T u0 u1 S C bn = l := ⟨_, rfl⟩
        have hqb := qL_byte (T := T) hT iu0 iu1 hS.out hCB.out
        have hql2 := qL_length T u0 u1 S C bn
        rw [hql] at hqb hql2
        obtain ⟨nq, hnq⟩ : ∃ x, 19 + T.size + bn = x := ⟨_, rfl⟩
        have HSt : Hid (∀ W, Kept W3 W → Calls Try.prog 71 #[.pointer (some ⟨pb, 0, none⟩), .string T, .int .u16 U, .agg (rowF 16 (fun j => .int .u8 (S j))), .slice sl bn bc] W fun e w' => ∃ x kb, e = .returned (.pointer (some ⟨x, 0, none⟩)) ∧ W.heap.size ≤ x ∧ W.heap.size ≤ kb ∧ Kept W w' ∧ RealStr w' x kb pb (strOf ql) (fun j => ql.getD j 0) nq 0 0) := Lib.hid fun W hk => by
          have h := x_Stream_R W pb (hs3.kept hk) T hT U u0 u1 (by rw [wrap_u8x]; exact hu0) (by rw [wrap_u8x, hu1]; unfold isByte at iu1; omega) iu0 iu1 S hS sl bn bc C hbn (hask3.bnd.kept hk) hCB
          rw [hql, hnq] at h
          exact h
        have HQr : Hid (∀ W, Kept W3 W → Calls Try.prog 73 #[.string T, .int .i64 U, .agg (rowF 16 (fun j => .int .u8 (S j))), .slice sl bn bc] W fun e w' => ∃ v, e = .returned v ∧ w'.ownsRow W.heap.size 5 1 v nq (bytesV ql) ∧ Kept W w') := Lib.hid fun W hk => by
          have hq1 : wrap64 (U.tdiv 256) = u1 := by
            rw [Int.tdiv_eq_ediv_of_nonneg hU.1, hu1]
            exact IntWalk.wrap64_in _ (by unfold isByte at iu1; omega)
          have hq2 : u1 % 256 = u1 := by unfold isByte at iu1; omega
          rcases hask3.bnd with ⟨rfl, rfl, rfl⟩ | ⟨ad, rfl, hc⟩
          · have h := r_Question_nil W T hT U u1 u0 u1 hu0 hq1 hq2 hU.1 S C
            rw [hql, hnq] at h
            exact h
          · have h := r_Question W T hT U u1 u0 u1 hu0 hq1 hq2 hU.1 S ad bn bc C hbn (Lib.hid fun j hj => hk.cell (hc j hj))
            rw [hql, hnq] at h
            exact h
        obtain ⟨r, HR, hr3⟩ : ∃ r : Nat, Hid (wrap64 ((IntKind.u64.wrap mm).tmod 300) = (r : Int)) ∧ r < 300 := by
          have e : IntKind.u64.wrap mm = mm % 18446744073709551616 := by simp [IntKind.wrap, IntKind.bits, IntKind.signed]
          refine ⟨(mm % 18446744073709551616 % 300).toNat, Lib.hid ?_, by omega⟩
          rw [e, Int.tmod_eq_emod_of_nonneg (by omega), IntWalk.wrap64_in _ (by omega)]
          omega
        go_wp2_with (refine wpList_load_add 77 (.tmp 42) (harr _ (Kept.refl _)) size77 agg77 rfl rfl rfl ?_)
        refine (HSt.out _ (Kept.refl _)).mono ?_
        rintro e W4 ⟨x, kb, rfl, hx, hkb, k34, hstr⟩
        have d0 := k34.cell c0
        have d20 := k34.cell c20
        have lkb := hstr.at'.lt
        clear c20
        go_wp2_with fail
        rw [HR.out]
        refine (x_Next_real _ x kb pb _ _ nq 0 0 hstr r (by omega)).mono ?_
        rintro e W5 ⟨v1, rfl, kt5, hstr5, own1⟩
        have k35 := kt5.kept k34 hkb
        have sz45 := kt5.size
        clear kt5 d0 d20
        go_wp2_with fail
        refine (x_Next_real _ x kb pb _ _ nq (0 + r) 0 hstr5 20 (by omega)).mono ?_
        rintro e W6 ⟨v2, rfl, kt6, hstr6, own2⟩
        have k36 := kt6.kept k35 hkb
        have own1' := (Chg.of_touch (S := fun i => i = kb) kt6 rfl).own own1 (fun g hg h => by have := own_lt own1 hg; omega)
        obtain ⟨g2, p2, rfl, _, _, _, _, hcl2⟩ := own_at own2 (by omega)
        have sz4 := k34.size
        have sz46 : W4.heap.size ≤ W6.heap.size := Nat.le_trans sz45 kt6.size
        clear kt6 own1
        go_upto_region 15 with (at_builtin; refine app_bytes own1' g2 0 20 p2 ((List.range 20).map fun j => Value.int .u8 (strm (fun j => ql.getD j 0) nq (0 + r + j))) (by simp) (one8x 20 _) (by intro j v hj; exact cellsN (fun j hj => by rw [Nat.zero_add]; exact hcl2 j hj) j v hj) (by omega) sz46 (.tmp 61) (.tmp 63) rfl rfl rfl rfl ?_; intro v7 W7 own7 gr7 _)
        have k37 := grown_kept k36 own1' gr7 sz4
        have e7 : bytesR r (fun i => strm (fun j => ql.getD j 0) nq (0 + i)) ++ (List.range 20).map (fun j => Value.int .u8 (strm (fun j => ql.getD j 0) nq (0 + r + j))) = bytesR (r + 20) (strm (fun j => ql.getD j 0) nq) := by
          unfold bytesR
          rw [List.range_add, List.map_append, List.map_map]
          simp [Function.comp_def]
        rw [e7] at own7
        obtain ⟨m20, hm20⟩ : ∃ m, r + 20 = m := ⟨_, rfl⟩
        rw [hm20] at own7
        have hw20 : IntKind.i64.wrap ((r : Int) + 20) = (m20 : Int) := by rw [IntWalk.i64_in _ (by omega)]; omega
        have hwU : IntKind.i64.wrap U = U := IntWalk.i64_in _ (by omega)
        clear own1' own2 gr7 hcl2 hstr6 hstr5 hstr k34 k35 k36
        have d0 := k37.cell c0
        have d1 := k37.cell c1
        have d18 := k37.cell c18
        go_wp2_with (refine wpList_load_add 77 (.tmp 70) (harr _ k37) size77 agg77 rfl rfl rfl ?_)
        refine (HQr.out _ k37).mono ?_
        rintro e W8 ⟨v9, rfl, own8, hk8⟩
        have k38 := k37.trans hk8
        have own78 := ownsRow_kept own7 hk8
        rw [bytesV_R, hql2, hnq] at own8
        obtain ⟨g9, p9, rfl, hp9, hp963, _, _, hcl9⟩ := own_at own8 (by omega)
        have hcb9 : ∀ j, j < nq → 0 ≤ ql.getD j 0 ∧ ql.getD j 0 ≤ 255 := fun j hj => by
          have hj' : j < ql.length := by omega
          rw [List.getD_eq_getElem?_getD, List.getElem?_eq_getElem hj']
          exact hqb _ (List.getElem_mem hj')
        have HH := r_Hash W8 1 (by omega) (by omega) (some ⟨g9, 0, none⟩) nq p9 g9 0 (fun j => ql.getD j 0) (.inr rfl) hp9 hp963 (Lib.hid fun j hj => by rw [Nat.zero_add]; exact hcl9 j hj) (Lib.hid hcb9) m20 (by omega) ((nq - 1) / 168) (nq - 168 * ((nq - 1) / 168)) (Lib.hid (by omega)) (by omega) (by omega)
        have e10 : rbytes (preS (fun j => ql.getD j 0) ((nq - 1) / 168) (nq - 168 * ((nq - 1) / 168)) 1) m20 = bytesR m20 (strm (fun j => ql.getD j 0) nq) := by
          rw [← hashV_rbytes _ _ _ _ (by omega) (by omega), show 168 * ((nq - 1) / 168) + (nq - 168 * ((nq - 1) / 168)) = nq by omega]
          rfl
        rw [e10] at HH
        have HH := Lib.hid HH
        clear d0 d1 d18 own8 hcl9 e10 own7 e7 k37 hk8
        go_wp2_with fail
        refine HH.out.mono ?_
        rintro e W9 ⟨v10, rfl, hk9, own9⟩
        have k39 := k38.trans hk9
        have own79 := ownsRow_kept own78 hk9
        have d0 := k39.cell c0
        have d1 := k39.cell c1
        have d18 := k39.cell c18
        have HSS := Lib.hid (x_SourceSeed W9 pb T U S sl bn bc (fun j => ql.getD j 0) nq (strOf ql) (Lib.hid fun W hk => HSt.out W (k39.trans hk)))
        clear k38 hk9 own78 HH
        go_wp2_with (refine wpList_load_add 77 (.tmp 83) (harr _ k39) size77 agg77 rfl rfl rfl ?_)
        refine HSS.out.mono ?_
        rintro e W10 ⟨rfl, hk10⟩
        have k310 := k39.trans hk10
        have own710 := ownsRow_kept own79 hk10
        have own910 := ownsRow_kept own9 hk10
        clear d0 d1 d18 k39 own79 own9 hk10 HSS harr c0 c1 c18
        obtain ⟨g10, hg10⟩ : ∃ g, W10.heap.size = g := ⟨_, rfl⟩
        have B10 : Blk (W10.alloc (.cells #[.int .u8 0, .int .u8 0, .int .u8 0, .int .u8 0, .int .u8 0, .int .u8 0, .int .u8 0, .int .u8 0, .int .u8 0, .int .u8 0, .int .u8 0, .int .u8 0, .int .u8 0, .int .u8 0, .int .u8 0, .int .u8 0] 77)) g10 77 (rowF 16 fun j => Value.int .u8 ((fun _ => (0 : Int)) j)) := by
          rw [zero16, ← hg10]
          exact Blk.new W10 77 _
        go_upto_region 17 with (refine wpList_store_part 77 (.tmp 10) (.tmp 87) B10 (Nat.le_refl _) size77 (fun i => rfl) rfl rfl rfl rfl ?_)
        refine abs_world (fun W => Kept W10 W ∧ Blk W g10 77 (rowF 16 fun j => .int .u8 (strm (fun j => ql.getD j 0) nq j))) ⟨((Kept.refl W10).alloc _).setRow (by omega) _, ?_⟩ ?_
        · have B1 := B10.setRow (rowF 16 fun i => if i < 16 then Value.int .u8 (strm (fun j => ql.getD j 0) nq i) else Value.int .u8 ((fun _ => (0 : Int)) i))
          rw [rowF_congr (f := fun j => Value.int .u8 (strm (fun j => ql.getD j 0) nq j)) (g := fun i => if i < 16 then Value.int .u8 (strm (fun j => ql.getD j 0) nq i) else Value.int .u8 ((fun _ => (0 : Int)) i)) fun i hi => (if_pos hi).symm]
          exact B1
        rintro W11 ⟨hk11, B11⟩
        have k311 := k310.trans hk11
        have own711 := ownsRow_kept own710 hk11
        have own911 := ownsRow_kept own910 hk11
        clear B10 hk11 k310 own710 own910 hg10
        have hby : ∀ j, 0 ≤ strm (fun j => ql.getD j 0) nq j ∧ strm (fun j => ql.getD j 0) nq j ≤ 255 := fun j => strm_byte _ _ _
        obtain ⟨g11, p11, rfl, hp11, hp1163, _, _, hcl11⟩ := own_at own911 (by omega)
        obtain ⟨a7, p7, rfl⟩ := ownsRow_slicex own711
        have h88 : ∀ w', Kept W11 w' → (convert 42 9 (.slice a7 m20 p7)).run Try.prog w' = .ok (.string (strR m20 (strm (fun j => ql.getD j 0) nq))) w' := fun w' hk => conv_R ((reads_of_own own711).kept hk) fun j _ => hby j
        have h90 : ∀ w', Kept W11 w' → (convert 42 9 (.slice (some ⟨g11, 0, none⟩) m20 p11)).run Try.prog w' = .ok (.string (strR m20 (strm (fun j => ql.getD j 0) nq))) w' := fun w' hk => conv_R ((reads_of_own own911).kept hk) fun j _ => hby j
        have h98 : ∀ w', Kept W11 w' → (convert 42 9 (.slice (some ⟨g10, 0, none⟩) 16 16)).run Try.prog w' = .ok (.string (strR 16 (strm (fun j => ql.getD j 0) nq))) w' := fun w' hk => conv_R (n := 16) (.inr ⟨g10, 0, 16, rfl, by simp [bytesR], fun j u hj => by rw [Nat.zero_add]; exact cells16 (B11.kept hk) j u hj⟩) fun j _ => hby j
        have h101 : ∀ w', Kept W11 w' → (convert 42 9 (.slice (some ⟨g11, 0, none⟩) 16 p11)).run Try.prog w' = .ok (.string (strR 16 (strm (fun j => ql.getD j 0) nq))) w' := fun w' hk => conv_R (n := 16) (.inr ⟨g11, 0, p11, rfl, by simp [bytesR]; omega, fun j u hj => hk.cell (cellsN (n := 16) (fun j hj => by rw [Nat.zero_add]; exact hcl11 j (by omega)) j u hj)⟩) fun j _ => hby j
        generalize strR m20 (strm (fun j => ql.getD j 0) nq) = S1 at h88 h90
        generalize strR 16 (strm (fun j => ql.getD j 0) nq) = S2 at h98 h101
        have y16 : (16 : Int) ≤ (m20 : Int) := by omega
        have yp : (16 : Int) ≤ (p11 : Int) := by omega
        have zp : p11 ≠ 0 := by omega
        clear own711 own911 hcl11 B11
        try simp only [List.append_eq, List.cons_append, List.nil_append]
        refine wp_region_wl (fun _ => oneMean 5 #[]) 18 (by kernel_rfl) (by as_aux_lemma => kernel_rfl) _ rfl _ rfl _ _ rfl rfl (fun k0 Lq hLq => ?_)
        dsimp only [List.map_cons, List.map_nil, List.take_succ_cons, List.take_zero, List.drop_succ_cons, List.drop_zero] at hLq ⊢
        repeat (first
          | (refine WL.law _ rfl rfl (by kernel_rfl) rfl rfl (calm_convx (x := .tmp 88) (src := 42) (dst := 9) h88 rfl) ?_; dsimp only [List.set_cons_zero, List.set_cons_succ])
          | (refine WL.law _ rfl rfl (by kernel_rfl) rfl rfl (calm_convx (x := .tmp 90) (src := 42) (dst := 9) h90 rfl) ?_; dsimp only [List.set_cons_zero, List.set_cons_succ])
          | (refine WL.law _ rfl rfl (by kernel_rfl) rfl rfl (calm_convx (x := .tmp 98) (src := 42) (dst := 9) h98 rfl) ?_; dsimp only [List.set_cons_zero, List.set_cons_succ])
          | (refine WL.law _ rfl rfl (by kernel_rfl) rfl rfl (calm_convx (x := .tmp 101) (src := 42) (dst := 9) h101 rfl) ?_; dsimp only [List.set_cons_zero, List.set_cons_succ])
          | (refine WL.skip rfl rfl ?_; dsimp only [List.set_cons_zero, List.set_cons_succ])
          | (refine WL.ex rfl rfl (by kernel_rfl) rfl ?_; apply Exists.intro; refine And.intro (fun w' hk => ?_) (And.intro ?_ ?_); (focus (clear hk; go_simp; exact rfl)); (focus (exact rfl)); dsimp only [List.set_cons_zero, List.set_cons_succ]))
        refine WL.nil (hLq _ ?_)
        clear hLq
        intro a'' W12 hk hra
        obtain rfl := hra.mark0 (by kernel_rfl)
        clear hra
        try simp only [List.drop_succ_cons, List.drop_zero, List.drop_nil]
        have kk12 := (kk3.trans k311).trans hk
        clear h88 h90 h98 h101 k311 hk
        go_wp2_with fail
        go_roundw
        case rel => exact ⟨i + 1, by omega, by go_num, kk12⟩
        case measure => simp [intOf]; omega
    · have yi : (n : Int) ≤ (i : Int) := by omega
      obtain rfl : n = i := by omega
      have hs3 := hs.kept k
      have k3 := k2.trans k
      go_wp2_with fail
      refine (x_Asked_real _ pb hs3).mono ?_
      rintro e W4 ⟨qa, qc, rfl, hk⟩
      have k4 := k3.trans hk
      go_wp2_with fail
      go_ret
      exact ⟨rfl, k4⟩
theorem xofReal_walk (a : Option Addr) (n cap : Nat) (w : World) (hs : (n : Int) ≤ 9223372036854775807 ∧ SlA w a n cap) :
    Calls Try.prog 16 #[.slice a n cap] w fun e w' => e = .returned (.bool true) ∧ Kept w w' := xof_real_r w a n cap hs.1 hs.2
end Go.Proofs.Ytnajihlhcdedgaa
