/-
  Texts joined: X8 X9 X13 K12 K13 K14 X4 X5 X14 X10 X15 X17 K17 X18 X19 X20.
-/
import Derived.Test.YtnajihlhcdedgaaYN3
import Derived.Deep.LoopGhost
import Derived.Deep.DrawnRows
import Derived.IntWalk
import Derived.Deep.Cut
import Derived.Laws.MakeOwn
import Derived.Laws.CopyOwn
import Derived.RegionTactic
import Derived.Deep.RegionHeld3
import Derived.Deep.AppendLies
namespace Go.Proofs.Ytnajihlhcdedgaa
open Go.RowKit
set_option linter.unusedVariables false
set_option linter.unusedSimpArgs false
attribute [local simp] blkAt_setCell blkAt_alloc blkAt_drew Obj.put_cells
attribute [local go_sem ↓] Go.wp_at_zero Go.wp_at_succ
/-- The entries, the i-th one q's. -/
def esAt (es : Array MapEntry) (i : Nat) (q : ByteArray) (u : Value) : Array MapEntry := es.modify i fun e => { e with key := .string q, val := u }
theorem find_spec (q : ByteArray) : ∀ (l : List MapEntry) (j i : Nat) (u : Value), Instr.findNow .string (.string q) l j = some (some (i, u)) →
    j ≤ i ∧ (∃ e, l[i - j]? = some e ∧ e.key = .string q ∧ e.val = u) ∧ ∀ v, Instr.findNow .string (.string q) (l.modify (i - j) fun e => { e with key := .string q, val := v }) j = some (some (i, v))
  | [], j, i, u, h => by simp [Instr.findNow] at h
  | e :: l, j, i, u, h => by
    unfold Instr.findNow at h
    split at h
    · rename_i hs
      simp only [Option.some.injEq, Prod.mk.injEq] at h
      obtain ⟨rfl, rfl⟩ := h
      have hk : e.key = .string q := by
        unfold Instr.sameNow at hs
        split at hs <;> simp_all
        exact ((MapKept.bytes_beq _ _).1 hs).symm
      refine ⟨Nat.le_refl _, ⟨e, by simp, hk, rfl⟩, fun v => ?_⟩
      simp [Instr.findNow, Instr.sameNow, (MapKept.bytes_beq q q).2 rfl]
    · rename_i hs
      obtain ⟨h1, ⟨e', h2, h3, h4⟩, h5⟩ := find_spec q l (j + 1) i u h
      obtain ⟨d, hd⟩ : ∃ d, i - j = d + 1 := ⟨i - j - 1, by omega⟩
      have hd2 : i - (j + 1) = d := by omega
      rw [hd2] at h2 h5
      refine ⟨by omega, ⟨e', by rw [hd]; simpa using h2, h3, h4⟩, fun v => ?_⟩
      rw [hd, List.modify_succ_cons]
      unfold Instr.findNow
      rw [hs]
      exact h5 v
    · cases h
theorem esAt_find {es : Array MapEntry} {i : Nat} {q : ByteArray} {u : Value} (h : Instr.findNow .string (.string q) es.toList 0 = some (some (i, u))) (v : Value) : Instr.findNow .string (.string q) (esAt es i q v).toList 0 = some (some (i, v)) := by
  have := (find_spec q es.toList 0 i u h).2.2 v
  unfold esAt
  rw [Array.toList_modify]
  exact this
theorem esAt_self {es : Array MapEntry} {i : Nat} {q : ByteArray} {u : Value} (h : Instr.findNow .string (.string q) es.toList 0 = some (some (i, u))) : esAt es i q u = es := by
  obtain ⟨e, h1, h2, h3⟩ := (find_spec q es.toList 0 i u h).2.1
  unfold esAt
  apply Array.ext'
  rw [Array.toList_modify]
  apply List.ext_getElem?
  intro j
  rw [List.getElem?_modify]
  by_cases hj : i = j
  · subst hj
    rw [Nat.sub_zero] at h1
    rw [h1]
    cases e
    simp only at h2 h3
    subst h2 h3
    simp
  · cases es.toList[j]? <;> simp [hj]
theorem esAt_esAt (es : Array MapEntry) (i : Nat) (q : ByteArray) (u v : Value) : esAt (esAt es i q u) i q v = esAt es i q v := by
  unfold esAt
  apply Array.ext'
  simp only [Array.toList_modify]
  apply List.ext_getElem?
  intro j
  simp only [List.getElem?_modify]
  by_cases hj : i = j
  · cases es.toList[j]? <;> simp [hj]
  · cases es.toList[j]? <;> simp [hj]
theorem esAt_get {es : Array MapEntry} {i : Nat} {q : ByteArray} {u : Value} (h : Instr.findNow .string (.string q) es.toList 0 = some (some (i, u))) (v : Value) : ∃ e, (esAt es i q v)[i]? = some e ∧ e.key = .string q := by
  obtain ⟨e, h1, h2, h3⟩ := (find_spec q (esAt es i q v).toList 0 i v (esAt_find h v)).2.1
  exact ⟨e, by simpa using h1, h2⟩
/-- The p-th draw. -/
def drawn (D : Nat → Int) (nd p : Nat) : Int := if p < nd then D p else 0
theorem bytesR_succ (n : Nat) (C : Nat → Int) : bytesR (n + 1) C = bytesR n C ++ [.int .u8 (C n)] := by
  unfold bytesR
  rw [List.range_succ, List.map_append]
  rfl
set_option maxRecDepth 100000 in
set_option maxHeartbeats 2000000 in
theorem x_more (w : World) (b M : Nat) (da : Option Addr) (nd dc : Nat) (D : Nat → Int) (pos : Nat) (es : Array MapEntry) (ck : Nat) (av : Value) (ho : Orc w b M da nd dc D pos es ck av)
    (q : ByteArray) (i : Nat) (u : Value) (hf : Instr.findNow .string (.string q) es.toList 0 = some (some (i, u))) (B0 c many : Nat) (A : Nat → Int) (hown : w.ownsRow B0 5 1 u c (bytesR c A)) (hB0 : b < B0) (hB1 : B0 ≤ w.heap.size) (hc : c ≤ many) (hm0 : 0 < many) (hm : many ≤ 1000000) (hp : pos ≤ 1000000) (hnd : nd ≤ 1000000)
    (HA : Hid (∀ j, c ≤ j → j < many → A j = drawn D nd (pos + (j - c)))) :
    Calls Try.prog 130 #[.pointer (some ⟨b, 0, none⟩), .string q, .int .i64 (many : Int)] w fun e w' => ∃ u', e = .returned u' ∧ w'.ownsRow B0 5 1 u' many (bytesR many A) ∧ Orc w' b M da nd dc D (pos + (many - c)) (esAt es i q u') ck av ∧
      Chg (fun j => j = b ∨ j = M ∨ u.ownBlock = some j) w w' ∧ (∀ g, u'.ownBlock = some g → u.ownBlock = some g ∨ w.heap.size ≤ g) := by
  obtain ⟨i5, hi5, hz0, hz1, hz2⟩ := info_parts info5
  have hself := esAt_self hf
  have hMb := ho.lt
  have HG := Lib.hid (fun v => esAt_get hf v)
  have HE := Lib.hid (fun v => esAt_find hf v)
  have HEE := Lib.hid (fun x v => esAt_esAt es i q x v)
  have hug : ∀ g, u.ownBlock = some g → b < g := fun g hg => by have := own_lt hown hg; omega
  go_enter Try.func130, Try.ntmps130
  go_wp2_with fail
  go_loopg [] (many - c) (fun gk wr => ∃ (t : Nat) (u' : Value), c + t ≤ many ∧ gk = many - (c + t) ∧ Orc wr b M da nd dc D (pos + t) (esAt es i q u') ck av ∧ wr.ownsRow B0 5 1 u' (c + t) (bytesR (c + t) A) ∧
    Chg (fun j => j = b ∨ j = M ∨ u.ownBlock = some j) w wr ∧ (∀ g, u'.ownBlock = some g → u.ownBlock = some g ∨ w.heap.size ≤ g))
  case atStart => exact ⟨0, u, hc, rfl, by rw [hself]; exact ho, hown, Chg.refl _ _, fun g hg => .inl hg⟩
  case round =>
    obtain ⟨t, u', ht, hgk, o, own, k, hat⟩ := hrel
    obtain ⟨sa, sc, rfl⟩ := ownsRow_slicex own
    obtain ⟨m, hmm⟩ : ∃ m, c + t = m := ⟨_, rfl⟩
    rw [hmm] at own ht hgk o hat
    have hl := run_lookup_yes o.map (HE.out _)
    have c3 := o.blk.cell 3 rfl
    have zm : (0 : Int) ≤ (m : Int) := by omega
    rcases Nat.lt_or_ge m many with hlt | hge
    · have ylt : (m : Int) < (many : Int) := by omega
      go_upto_region 3 with (fail)
      have c1 := o.blk.cell 1 rfl
      have c2 := o.blk.cell 2 rfl
      clear hl c3
      obtain ⟨p, hpt⟩ : ∃ p, pos + t = p := ⟨_, rfl⟩
      have hp2 : p ≤ 2000000 := by omega
      rw [hpt] at o c2
      go_region_held3 (fun w' => w'.cell? ⟨b, 2, none⟩ = some (.int .i64 (p : Int)) ∧ w'.cell? ⟨b, 1, none⟩ = some (.slice da nd dc)) (go_keep) (fail)
      refine abs_world (fun W => Kept wr W) (Kept.refl wr).drew ?_
      clear c1 c2
      rintro W1 hk
      have o1 := o.kept hk
      have own1 := ownsRow_kept own hk
      have kk1 := k.trans_kept hk
      clear o own k hk
      have zp : (0 : Int) ≤ (p : Int) := by omega
      rcases Nat.lt_or_ge p nd with hd | hd
      · have yd : (p : Int) < (nd : Int) := by omega
        obtain ⟨pa, hip, cpa, hpa⟩ := o1.draws.at' p hd
        have HY : Hid (drawn D nd p = D p) := Lib.hid (if_pos hd)
        generalize D p = y at cpa HY
        go_upto_region 4 with (fail)
        have c1 := o1.blk.cell 1 rfl
        have c2 := o1.blk.cell 2 rfl
        go_region_held3 (fun w' => w'.cell? ⟨b, 2, none⟩ = some (.int .i64 (p : Int)) ∧ w'.cell? ⟨b, 1, none⟩ = some (.slice da nd dc) ∧ w'.cell? pa = some (.int .u8 y)) (go_keep) (fail)
        refine abs_world (fun W => Kept W1 W) (Kept.refl W1).drew ?_
        clear c1 c2 cpa
        rintro W2 hk
        have o2 := o1.kept hk
        have own2 := ownsRow_kept own1 hk
        have kk2 := kk1.trans_kept hk
        clear o1 own1 kk1 hk
        have hw1 : IntKind.i64.wrap ((p : Int) + 1) = ((p + 1 : Nat) : Int) := by rw [IntWalk.i64_in _ (by omega)]; simp
        have f2 := o2.blk.free
        have c2 := o2.blk.cell 2 rfl
        go_upto_region 6 with (fail)
        refine abs_world (fun W => Chg (fun j => j = b) W2 W ∧ Blk W b 143 #[.bool true, .slice da nd dc, .int .i64 ((p + 1 : Nat) : Int), .map (some M), av]) ⟨(Chg.refl (fun j => j = b) W2).setCell (.inl rfl) _, by simp [Blk, o2.blk.eq]⟩ ?_
        clear f2 c2
        rintro W3 ⟨k3, B3⟩
        have own3 := k3.own own2 (fun g hg => by have := own_lt own2 hg; omega)
        have M3 := k3.heap o2.map (by omega)
        have D3 := k3.slB o2.draws (fun i hi => by omega)
        have kk3 : Chg (fun j => j = b ∨ j = M ∨ u.ownBlock = some j) w W3 := kk2.trans k3 fun i _ h => .inl h
        have sz3 : B0 ≤ W3.heap.size := Nat.le_trans hB1 kk3.size
        have ltb := B3.lt
        clear k3 own2 o2 kk2
        have c3 := B3.cell 3 rfl
        have hlk : ∀ W, W.heap[M]? = some (.map (esAt es i q (.slice sa m sc)) ck) → (Instr.lookup 141 (.map (some M)) (.string q) false).run Try.prog W = .ok (.slice sa m sc) W := fun W h => run_lookup_yes h (HE.out _)
        have hl := hlk _ M3
        obtain ⟨e0, he0, hk0⟩ := HG.out (.slice sa m sc)
        have hl1 := hlk W3.drew M3
        have hl2 := hlk (W3.alloc (.cells #[.int .u8 y] 5)).drew ((heap_alloc_old W3.drew _ (by simpa using (Nat.lt_trans hMb ltb))).trans M3)
        go_region_held3 (fun w' => w'.cell? ⟨b, 3, none⟩ = some (.map (some M)))
          (((try dsimp only); first | assumption | exact Blk.cell (Blk.drew B3) 3 rfl | exact Blk.cell (Blk.alloc (Blk.drew B3) _) 3 rfl | exact Blk.cell B4 3 rfl | exact (chg_putMap _ _ _).cell (Blk.cell B4 3 rfl) (Nat.ne_of_gt hMb)))
          ((refine step_append_lies _ (by rfl) (.tmp 54) (.tmp 56) 42 (by rfl) B0 5 i5 _ 1 1 Try.underlying42 hi5 hz0 hz1 hz2 rfl (by decide) _ _ _ (by rfl) (World.ownsRow.alloc (w := W3.drew) own3 _) ⟨W3.heap.size, 0, none⟩ 1 1 [.int .u8 y] (by rfl) rfl (cell_one_new _ _ _) (by simp [Value.oneCell']) (by omega) (by unfold maxLen; omega) (by omega) (by simp; omega) (W3.heap.size + 1) (by simp) ?_; intro g cap w1 hown1 hgrow hat1 hlt1; have kg := chg_grown hgrow; have M4 := kg.heap ((heap_alloc_old W3.drew _ (by simpa using (Nat.lt_trans hMb ltb))).trans M3) (fun h => by have := own_lt own3 h; omega); have B4 := kg.blk (Blk.alloc (Blk.drew B3) _) (fun h => by have := own_lt own3 h; omega); have c4 := B4.cell 3 rfl; have hu := run_putOld (v := .slice (some ⟨g, 0, none⟩) (m + 1) cap) M4 (HE.out _) he0 hk0))
        all_goals
          have kp := chg_putMap w1 M (.map (esAt (esAt es i q (.slice sa m sc)) i q (.slice (some ⟨g, 0, none⟩) (m + 1) cap)) ck)
          have hgM : g ≠ M := by
            rcases hat1 with h | h
            · have := own_lt own3 h
              omega
            · omega
          have D5 := kp.slB (kg.slB (D3.kept (((Kept.refl W3).drew).alloc _)) (fun j hj h => by have := own_lt own3 h; omega)) (fun j hj => by omega)
          have B5 := kp.blk B4 (Nat.ne_of_gt hMb)
          have M5 := putMap_at w1 (.map (esAt (esAt es i q (.slice sa m sc)) i q (.slice (some ⟨g, 0, none⟩) (m + 1) cap)) ck) (Array.getElem?_eq_some_iff.1 M4).1
          have own5 := kp.own hown1 (fun g' hg' h => by have e : g = g' := Option.some.inj hg'; omega)
          have kk5 := (((kk3.drew).alloc _).grown hgrow (fun g' hg' => by
            rcases hat g' hg' with h | h
            · exact .inl (.inr (.inr h))
            · exact .inr h)).trans kp fun j _ h => .inr (.inl h)
          have hloc : ∀ g', (Value.slice (some ⟨g, 0, none⟩) (m + 1) cap).ownBlock = some g' → u.ownBlock = some g' ∨ w.heap.size ≤ g' := fun g' hg' => by
            obtain rfl : g = g' := Option.some.inj hg'
            rcases hat1 with h | h
            · exact hat _ h
            · right
              have := kk3.size
              omega
          have HA1 := HA.out m (by omega) hlt
          rw [show pos + (m - c) = p by omega, HY.out] at HA1
          rw [← HA1, ← bytesR_succ] at own5
          clear hl hl1 hl2 hlk hu
          go_wp2_with fail
          go_roundg (many - (m + 1))
          case measure => omega
          case rel =>
            refine ⟨t + 1, .slice (some ⟨g, 0, none⟩) (m + 1) cap, by omega, by omega, ?_, by rw [show c + (t + 1) = m + 1 by omega]; exact own5, kk5, hloc⟩
            rw [← HEE.out (.slice sa m sc) (.slice (some ⟨g, 0, none⟩) (m + 1) cap)]
            exact ⟨by rw [show pos + (t + 1) = p + 1 by omega]; exact B5, M5, hMb, D5⟩
      · have yd : (nd : Int) ≤ (p : Int) := by omega
        have HY : Hid (drawn D nd p = 0) := Lib.hid (if_neg (by omega))
        obtain ⟨y, hy⟩ : ∃ y : Int, 0 = y := ⟨_, rfl⟩
        rw [hy] at HY
        have o2 := o1
        have own2 := own1
        have kk2 := kk1
        clear o1 own1 kk1
        have hw1 : IntKind.i64.wrap ((p : Int) + 1) = ((p + 1 : Nat) : Int) := by rw [IntWalk.i64_in _ (by omega)]; simp
        have f2 := o2.blk.free
        have c2 := o2.blk.cell 2 rfl
        go_upto_region 6 with (fail)
        refine abs_world (fun W => Chg (fun j => j = b) W1 W ∧ Blk W b 143 #[.bool true, .slice da nd dc, .int .i64 ((p + 1 : Nat) : Int), .map (some M), av]) ⟨(Chg.refl (fun j => j = b) W1).setCell (.inl rfl) _, by simp [Blk, o2.blk.eq]⟩ ?_
        clear f2 c2
        rintro W3 ⟨k3, B3⟩
        have own3 := k3.own own2 (fun g hg => by have := own_lt own2 hg; omega)
        have M3 := k3.heap o2.map (by omega)
        have D3 := k3.slB o2.draws (fun i hi => by omega)
        have kk3 : Chg (fun j => j = b ∨ j = M ∨ u.ownBlock = some j) w W3 := kk2.trans k3 fun i _ h => .inl h
        have sz3 : B0 ≤ W3.heap.size := Nat.le_trans hB1 kk3.size
        have ltb := B3.lt
        clear k3 own2 o2 kk2
        have c3 := B3.cell 3 rfl
        have hlk : ∀ W, W.heap[M]? = some (.map (esAt es i q (.slice sa m sc)) ck) → (Instr.lookup 141 (.map (some M)) (.string q) false).run Try.prog W = .ok (.slice sa m sc) W := fun W h => run_lookup_yes h (HE.out _)
        have hl := hlk _ M3
        obtain ⟨e0, he0, hk0⟩ := HG.out (.slice sa m sc)
        have hl1 := hlk W3.drew M3
        have hl2 := hlk (W3.alloc (.cells #[.int .u8 y] 5)).drew ((heap_alloc_old W3.drew _ (by simpa using (Nat.lt_trans hMb ltb))).trans M3)
        go_region_held3 (fun w' => w'.cell? ⟨b, 3, none⟩ = some (.map (some M)))
          (((try dsimp only); first | assumption | exact Blk.cell (Blk.drew B3) 3 rfl | exact Blk.cell (Blk.alloc (Blk.drew B3) _) 3 rfl | exact Blk.cell B4 3 rfl | exact (chg_putMap _ _ _).cell (Blk.cell B4 3 rfl) (Nat.ne_of_gt hMb)))
          ((refine step_append_lies _ (by rfl) (.tmp 54) (.tmp 56) 42 (by rfl) B0 5 i5 _ 1 1 Try.underlying42 hi5 hz0 hz1 hz2 rfl (by decide) _ _ _ (by rfl) (World.ownsRow.alloc (w := W3.drew) own3 _) ⟨W3.heap.size, 0, none⟩ 1 1 [.int .u8 y] (by rfl) rfl (cell_one_new _ _ _) (by simp [Value.oneCell']) (by omega) (by unfold maxLen; omega) (by omega) (by simp; omega) (W3.heap.size + 1) (by simp) ?_; intro g cap w1 hown1 hgrow hat1 hlt1; have kg := chg_grown hgrow; have M4 := kg.heap ((heap_alloc_old W3.drew _ (by simpa using (Nat.lt_trans hMb ltb))).trans M3) (fun h => by have := own_lt own3 h; omega); have B4 := kg.blk (Blk.alloc (Blk.drew B3) _) (fun h => by have := own_lt own3 h; omega); have c4 := B4.cell 3 rfl; have hu := run_putOld (v := .slice (some ⟨g, 0, none⟩) (m + 1) cap) M4 (HE.out _) he0 hk0))
        all_goals
          have kp := chg_putMap w1 M (.map (esAt (esAt es i q (.slice sa m sc)) i q (.slice (some ⟨g, 0, none⟩) (m + 1) cap)) ck)
          have hgM : g ≠ M := by
            rcases hat1 with h | h
            · have := own_lt own3 h
              omega
            · omega
          have D5 := kp.slB (kg.slB (D3.kept (((Kept.refl W3).drew).alloc _)) (fun j hj h => by have := own_lt own3 h; omega)) (fun j hj => by omega)
          have B5 := kp.blk B4 (Nat.ne_of_gt hMb)
          have M5 := putMap_at w1 (.map (esAt (esAt es i q (.slice sa m sc)) i q (.slice (some ⟨g, 0, none⟩) (m + 1) cap)) ck) (Array.getElem?_eq_some_iff.1 M4).1
          have own5 := kp.own hown1 (fun g' hg' h => by have e : g = g' := Option.some.inj hg'; omega)
          have kk5 := (((kk3.drew).alloc _).grown hgrow (fun g' hg' => by
            rcases hat g' hg' with h | h
            · exact .inl (.inr (.inr h))
            · exact .inr h)).trans kp fun j _ h => .inr (.inl h)
          have hloc : ∀ g', (Value.slice (some ⟨g, 0, none⟩) (m + 1) cap).ownBlock = some g' → u.ownBlock = some g' ∨ w.heap.size ≤ g' := fun g' hg' => by
            obtain rfl : g = g' := Option.some.inj hg'
            rcases hat1 with h | h
            · exact hat _ h
            · right
              have := kk3.size
              omega
          have HA1 := HA.out m (by omega) hlt
          rw [show pos + (m - c) = p by omega, HY.out] at HA1
          rw [← HA1, ← bytesR_succ] at own5
          clear hl hl1 hl2 hlk hu
          go_wp2_with fail
          go_roundg (many - (m + 1))
          case measure => omega
          case rel =>
            refine ⟨t + 1, .slice (some ⟨g, 0, none⟩) (m + 1) cap, by omega, by omega, ?_, by rw [show c + (t + 1) = m + 1 by omega]; exact own5, kk5, hloc⟩
            rw [← HEE.out (.slice sa m sc) (.slice (some ⟨g, 0, none⟩) (m + 1) cap)]
            exact ⟨by rw [show pos + (t + 1) = p + 1 by omega]; exact B5, M5, hMb, D5⟩
    · have ylt : (many : Int) ≤ (m : Int) := by omega
      obtain rfl : m = many := by omega
      have own2 := own
      rcases own2.2 with ⟨_, h0⟩ | ⟨gg, cap, cur, hu, _, _, hcap, hcm, _⟩
      · omega
      · injection hu with e1 e2 e3
        subst sa; subst sc
        have ycap : (m : Int) ≤ (cap : Int) := by omega
        have zcap : cap ≠ 0 := by omega
        have ycap2 : (cap : Int) ≤ 9223372036854775807 := by unfold maxLen at hcm; omega
        go_wp2_with fail
        go_ret
        have e : pos + (m - c) = pos + t := by omega
        exact ⟨_, rfl, own, by rw [e]; exact o, k, hat⟩
end Go.Proofs.Ytnajihlhcdedgaa

namespace Go.Proofs.Ytnajihlhcdedgaa
open Go.RowKit
set_option linter.unusedVariables false
set_option linter.unusedSimpArgs false
attribute [local simp] blkAt_setCell blkAt_alloc blkAt_drew Obj.put_cells
theorem own_at {w : World} {base n : Nat} {v : Value} {C : Nat → Int} (h : w.ownsRow base 5 1 v n (bytesR n C)) (hn : 0 < n) : ∃ g cap, v = .slice (some ⟨g, 0, none⟩) n cap ∧ n ≤ cap ∧ (cap : Int) ≤ 9223372036854775807 ∧ base ≤ g ∧ g < w.heap.size ∧ ∀ j, j < n → w.cell? ⟨g, j, none⟩ = some (.int .u8 (C j)) := by
  rcases h.2 with ⟨_, h0⟩ | ⟨g, cap, cur, rfl, hb, hg, hc, hm, _⟩
  · omega
  · refine ⟨g, cap, rfl, hc, by unfold maxLen at hm; omega, hb, (own_lt h (g := g) rfl).2, fun j hj => ?_⟩
    have := h.cells (g := g) rfl j (.int .u8 (C j)) (by simp [bytesR, hj])
    rw [add_zero_at] at this
    exact this
set_option maxRecDepth 100000 in
set_option maxHeartbeats 2000000 in
theorem x_Next_o (w : World) (x b M : Nat) (q : ByteArray) (xat : Nat) (skip : Int) (hx : OStr w x b q xat skip) (da : Option Addr) (nd dc : Nat) (D : Nat → Int) (pos : Nat) (es : Array MapEntry) (ck : Nat) (av : Value) (ho : Orc w b M da nd dc D pos es ck av)
    (i : Nat) (u : Value) (hf : Instr.findNow .string (.string q) es.toList 0 = some (some (i, u))) (B0 c many : Nat) (A : Nat → Int) (hown : w.ownsRow B0 5 1 u c (bytesR c A)) (hB0 : b < B0) (hB1 : B0 ≤ w.heap.size) (hc : c ≤ xat + many) (hm0 : 0 < many) (hm : many ≤ 65536) (hxm : xat + many ≤ 1000000) (hp : pos ≤ 1000000) (hnd : nd ≤ 1000000)
    (HA : Hid (∀ j, c ≤ j → j < xat + many → A j = drawn D nd (pos + (j - c)))) (hxb : x ≠ b) (hxM : M < x) (hxu : u.ownBlock ≠ some x) :
    Calls Try.prog 72 #[.pointer (some ⟨x, 0, none⟩), .int .i64 (many : Int)] w fun e w' => ∃ v u', e = .returned v ∧ w'.ownsRow w.heap.size 5 1 v many (bytesR many fun j => A (xat + j)) ∧ OStr w' x b q (xat + many) skip ∧ Orc w' b M da nd dc D (pos + (xat + many - c)) (esAt es i q u') ck av ∧
      w'.ownsRow B0 5 1 u' (xat + many) (bytesR (xat + many) A) ∧ Chg (fun j => j = b ∨ j = M ∨ j = x ∨ u.ownBlock = some j) w w' ∧ (∀ g, u'.ownBlock = some g → u.ownBlock = some g ∨ w.heap.size ≤ g) ∧ (∀ g g', v.ownBlock = some g → u'.ownBlock = some g' → g' < g) := by
  have zm : (0 : Int) ≤ (many : Int) := by omega
  have ym : (many : Int) ≤ 65536 := by omega
  have c0 := hx.cell 0 rfl
  have c1 := hx.cell 1 rfl
  have c2 := hx.cell 2 rfl
  have c3 := hx.cell 3 rfl
  have ltx := hx.lt
  have hw1 : IntKind.i64.wrap ((xat : Int) + (many : Int)) = ((xat + many : Nat) : Int) := by rw [IntWalk.i64_in _ (by omega)]; simp
  obtain ⟨X, hX⟩ : ∃ X, xat + many = X := ⟨_, rfl⟩
  rw [hX] at hw1 hc hxm HA ⊢
  go_enter Try.func72, Try.ntmps72
  go_upto_region 5 with (fail)
  try simp only [List.append_eq, List.cons_append, List.nil_append]
  refine wp_region_wl (fun _ => oneMean 5 #[]) 14 (by kernel_rfl) (by as_aux_lemma => kernel_rfl) _ rfl _ rfl _ _ rfl rfl (fun k0 Lq hLq => ?_)
  dsimp only [List.map_cons, List.map_nil, List.take_succ_cons, List.take_zero, List.drop_succ_cons, List.drop_zero] at hLq ⊢
  repeat (first
    | (refine WL.skip rfl rfl ?_; dsimp only [List.set_cons_zero, List.set_cons_succ])
    | (refine WL.ex rfl rfl (by kernel_rfl) rfl ?_; apply Exists.intro; refine And.intro (fun w' hk => ?_) (And.intro ?_ ?_); (focus (have q0 := hk.cell c0; have q2 := hk.cell c2; have q3 := hk.cell c3; clear hk; go_simp; exact rfl)); (focus (exact rfl)); dsimp only [List.set_cons_zero, List.set_cons_succ]))
  refine WL.nil (hLq _ ?_)
  clear hLq
  intro a'' V hk hra
  obtain rfl := hra.mark0 (by kernel_rfl)
  clear hra
  try simp only [List.drop_succ_cons, List.drop_zero, List.drop_nil]
  have hxV := hx.kept hk
  have HM := Lib.hid (x_more V b M da nd dc D pos es ck av (ho.kept hk) q i u hf B0 c X A (ownsRow_kept hown hk) hB0 (Nat.le_trans hB1 hk.size) hc (by omega) hxm hp hnd HA)
  clear c0 c1 c2 c3
  go_wp2_with fail
  refine HM.out.mono ?_
  rintro e W1 ⟨u', rfl, own1, o1, k1, hat⟩
  obtain ⟨ug, uc, rfl, huc, huc63, hug, hugl, hcl⟩ := own_at own1 (by omega)
  have hx1 := k1.blk hxV (by rintro (h | h | h); exact hxb h; omega; exact hxu h)
  have kk1 : Chg (fun j => j = b ∨ j = M ∨ u.ownBlock = some j) w W1 := (Chg.of_kept hk).trans k1 fun _ _ h => h
  have own0 : (W1.alloc (.cells #[] 5)).ownsRow W1.heap.size 5 1 (.slice (some ⟨W1.heap.size, 0, none⟩) 0 0) 0 [] := World.ownsRow_made W1 #[] 0 (Nat.le_refl _) (by decide) rfl
  have ltx1 := hx1.lt
  have c3 := hx1.cell 3 rfl
  have d3 := (hx1.alloc (.cells #[] 5)).cell 3 rfl
  have y1 : (xat : Int) ≤ (X : Int) := by omega
  have y2 : (X : Int) ≤ (uc : Int) := by omega
  have y3 : (0 : Int) ≤ (xat : Int) := by omega
  have y4 : uc - xat ≠ 0 := by omega
  have y5 : uc ≠ xat := by omega
  have y6 : uc ≠ 0 := by omega
  have hxx : X - xat = many := by omega
  clear HM
  go_upto_region 7 with (at_builtin; refine app_bytes own0 ug xat many _ ((List.range many).map fun j => Value.int .u8 (A (xat + j))) (by simp) (one8x many _) (by intro j v hj; exact ((Kept.refl W1).alloc _).cell (cellsN (fun j hj => hcl (xat + j) (by omega)) j v hj)) (by omega) (by simp) (.tmp 43) (.tmp 49) rfl rfl rfl rfl ?_; intro v2 W2 own2 gr2 at2)
  rw [Nat.zero_add, List.nil_append] at own2
  have k2 := grown_kept ((Kept.refl W1).alloc _) own0 gr2 (Nat.le_refl _)
  have hx2 := hx1.kept k2
  have o2 := o1.kept k2
  have own12 := ownsRow_kept own1 k2
  have kk2 := kk1.trans_kept k2
  have hMb := ho.lt
  clear own0 gr2 at2 c3 d3
  have c3 := hx2.cell 3 rfl
  have f3 := hx2.free
  go_wp2_with fail
  go_ret
  have ks := chg_set W2 x 3 (.int .i64 (X : Int))
  have hux : ug ≠ x := fun h => by
    subst h
    rcases hat ug rfl with h | h
    · exact hxu h
    · have := hxV.lt
      omega
  have hsz1 := kk1.size
  refine ⟨v2, .slice (some ⟨ug, 0, none⟩) X uc, rfl, ks.own (ownsRow_base own2 hsz1) (fun g hg h => by have := own_lt own2 hg; omega), by show blkAt _ _ = _; rw [blkAt_setCell, if_pos rfl, hx2.eq]; rfl, o2.chg ks (fun h => hxb h.symm) (fun j hj h => by omega), ks.own own12 (fun g hg h => hux ((Option.some.inj hg).trans h)), ?_, ?_, ?_⟩
  · refine (kk2.mono (T := fun j => j = b ∨ j = M ∨ j = x ∨ u.ownBlock = some j) fun j _ h => ?_).trans ks fun j _ h => .inr (.inr (.inl h))
    rcases h with h | h | h
    · exact .inl h
    · exact .inr (.inl h)
    · exact .inr (.inr (.inr h))
  · intro g hg
    rcases hat g hg with h | h
    · exact .inl h
    · exact .inr (Nat.le_trans hk.size h)
  · intro g g' hg hg'
    have h1 := own_lt own2 hg
    have h2 : ug = g' := Option.some.inj hg'
    omega
end Go.Proofs.Ytnajihlhcdedgaa

namespace Go.Proofs.Ytnajihlhcdedgaa
open Go.RowKit
set_option linter.unusedVariables false
set_option linter.unusedSimpArgs false
attribute [local simp] blkAt_setCell blkAt_alloc blkAt_drew Obj.put_cells
/-- The k-th piece of a stream, L bytes, as a number. -/
def pieceL (D : Nat → Int) (L k : Nat) : List Int := (List.range L).map fun j => D (k * L + j)
def tk (D : Nat → Int) (L k : Nat) : Int := leVal (pieceL D L k)
theorem pieceL_length (D : Nat → Int) (L k : Nat) : (pieceL D L k).length = L := by simp [pieceL]
theorem pieceL_getD (D : Nat → Int) (L k : Nat) {j : Nat} (hj : j < L) : (pieceL D L k).getD j 0 = D (k * L + j) := by
  unfold pieceL
  rw [List.getD_eq_getElem?_getD, List.getElem?_map, List.getElem?_range hj]
  rfl
/-- The elements among the first k pieces. -/
def okL (D : Nat → Int) (L : Nat) (f : Int) : Nat → List Int
  | 0 => []
  | k + 1 => if tk D L k < rP f then okL D L f k ++ [tk D L k] else okL D L f k
/-- How many pieces at the end are none. -/
def mis (D : Nat → Int) (L : Nat) (f : Int) : Nat → Nat
  | 0 => 0
  | k + 1 => if tk D L k < rP f then 0 else mis D L f k + 1
theorem okL_le (D : Nat → Int) (L : Nat) (f : Int) : ∀ k, (okL D L f k).length ≤ k
  | 0 => Nat.le_refl _
  | k + 1 => by
    have := okL_le D L f k
    unfold okL
    split
    · simp; omega
    · omega
/-- Elements as values. -/
def elemsV (l : List Int) : List Value := elist (fun j => l.getD j 0 % 18446744073709551616) (fun j => l.getD j 0 / 18446744073709551616) l.length
theorem elist_congr {C0 C1 D0 D1 : Nat → Int} {n : Nat} (h0 : ∀ j, j < n → C0 j = D0 j) (h1 : ∀ j, j < n → C1 j = D1 j) : elist C0 C1 n = elist D0 D1 n := by
  unfold elist
  refine List.map_congr_left fun c hc => ?_
  have hc := List.mem_range.1 hc
  unfold elemC
  rw [h0 (c / 2) (by omega), h1 (c / 2) (by omega)]
theorem elemsV_append (l : List Int) (z : Int) : elemsV (l ++ [z]) = elemsV l ++ [.int .u64 (z % 18446744073709551616), .int .u64 (z / 18446744073709551616)] := by
  unfold elemsV
  rw [List.length_append, List.length_singleton, elist_succ]
  have e : ∀ j, j < l.length → (l ++ [z]).getD j 0 = l.getD j 0 := fun j hj => by simp [List.getD_eq_getElem?_getD, List.getElem?_append_left hj]
  have e2 : (l ++ [z]).getD l.length 0 = z := by simp [List.getD_eq_getElem?_getD]
  rw [elist_congr (fun j hj => by rw [e j hj]) (fun j hj => by rw [e j hj]), e2]
theorem own_form28 {w : World} {base n : Nat} {v : Value} {xs : List Value} (h : w.ownsRow base 28 2 v n xs) : ∃ a c, v = .slice a n c := by
  rcases h.2 with ⟨rfl, rfl⟩ | ⟨g, cap, cur, rfl, _⟩
  · exact ⟨_, _, rfl⟩
  · exact ⟨_, _, rfl⟩
theorem append_elem {ops : Array Oper} {rest : List Oper} {o : Oper} {a : Act} {Q : Exit → Act → World → Prop} {wr : World} {base : Nat} {v : Value} {n : Nat} {xs : List Value} (hown : wr.ownsRow base 28 2 v n xs) (r0 r1 : Int) (hn : n ≤ 1000000) (hbase : base ≤ wr.heap.size) (s x : Operand) (hgd : o.guard = none) (ho : o.op = .call { callee := .builtin .append, args := #[s, x], argTypes := #[90, 90] })
    (hs : a.eval s = v) (hx : a.eval x = .slice (some ⟨wr.heap.size, 0, none⟩) 1 1)
    (h : ∀ v' w', w'.ownsRow base 28 2 v' (n + 1) (xs ++ [.int .u64 r0, .int .u64 r1]) → wr.grownBy w' v.ownBlock → (v'.ownBlock = v.ownBlock ∨ v'.ownBlock = some (wr.heap.size + 1)) → wpList Try.prog ops Q rest (a.put o.dst v') w') :
    wpList Try.prog ops Q (o :: rest) a (wr.alloc (.cells #[.int .u64 r0, .int .u64 r1] 28)) := by
  obtain ⟨i, hi, hz0, hz1, hz2⟩ := info_parts info28
  refine wpList_append_own_at _ hgd s x 90 ho base 28 i _ 2 16 Try.underlying90 hi hz0 hz1 hz2 rfl (by decide) v n xs hs (hown.alloc _) ⟨wr.heap.size, 0, none⟩ 1 1 [.int .u64 r0, .int .u64 r1] hx rfl ?_ (by intro u hu; simp at hu; rcases hu with rfl | rfl <;> rfl) (by unfold maxLen; omega) (by omega) (by simp; omega) ?_
  · intro j u hj
    rw [add_zero_at, World.cell?_alloc_at _ _ _ _ rfl]
    simpa using hj
  · intro v' w' h2 h3 _ h5
    refine h v' w' h2 ⟨h3.os, h3.tape, h3.output, Nat.le_trans (by simp) h3.size, fun k hk hne => ?_⟩ (by simpa using h5)
    rw [h3.block k (by simp; omega) hne]
    exact heap_alloc_old wr _ hk
/-- What a stream at x is, after k pieces, s passed over; its blocks. -/
structure StrLaw (F x : Nat) (L : Nat) (D : Nat → Int) (KM : Nat) (St : Nat → Int → (Nat → Prop) → World → Prop) : Prop where
  lt : ∀ k s S W, St k s S W → ∀ i, S i → i < W.heap.size
  stab : ∀ k s S W W' T, St k s S W → Chg T W W' → (∀ i, S i → ¬ T i) → (∀ i, T i → F ≤ i) → St k s S W'
  next : ∀ k s S W, k < KM → St k s S W → Calls Try.prog 72 #[.pointer (some ⟨x, 0, none⟩), .int .i64 (L : Int)] W fun e W' => ∃ v S', e = .returned v ∧ W'.ownsRow W.heap.size 5 1 v L (bytesR L fun j => D (k * L + j)) ∧ St (k + 1) s S' W' ∧ Chg S W W' ∧ (∀ i, S' i → S i ∨ W.heap.size ≤ i)
  cell : ∀ k s S W, St k s S W → W.cell? ⟨x, 4, none⟩ = some (.int .i64 s)
  free : ∀ k s S W, St k s S W → W.frozen? ⟨x, 4, none⟩ = false
  own : ∀ k s S W, St k s S W → S x
  skip : ∀ k s S W, St k s S W → St k (s + 1) S (W.setCell ⟨x, 4, none⟩ (.int .i64 (s + 1)))
set_option maxRecDepth 100000 in
set_option maxHeartbeats 1000000 in
theorem x_Vec_ok (w : World) (x : Nat) (f : Int) (hf : isF f) (L : Nat) (hL : (L : Int) = 8 * f) (D : Nat → Int) (hD : Hid (∀ j, isByte (D j))) (KM : Nat) (St : Nat → Int → (Nat → Prop) → World → Prop) (F : Nat) (hF : F ≤ w.heap.size) (hS : StrLaw F x L D KM St) (S0 : Nat → Prop) (s0 : Int) (hs0 : 0 ≤ s0 ∧ s0 ≤ 1000000) (h0 : St 0 s0 S0 w) (many K : Nat) (hmany : many ≤ 4096) (hKM : K ≤ KM) (hKb : K ≤ 1000000) (hK : Hid (∀ k, k < K → (okL D L f k).length < many)) (hm : Hid (∀ k, k ≤ K → mis D L f k < 64)) (hend : (okL D L f K).length = many) :
    Calls Try.prog 86 #[.pointer (some ⟨x, 0, none⟩), .int .u8 f, .int .i64 (many : Int)] w fun e w' => ∃ v S', e = .returned (.tuple #[v, .int .i64 0]) ∧ w'.ownsRow w.heap.size 28 2 v many (elemsV (okL D L f K)) ∧ (∀ g, v.ownBlock = some g → ¬ S' g) ∧ St K (s0 + ((K - (okL D L f K).length : Nat) : Int)) S' w' ∧ Chg S0 w w' ∧ (∀ i, S' i → S0 i ∨ w.heap.size ≤ i) := by
  have HV := Lib.hid (f_Valid hf)
  have HS0 := f_Size hf
  rw [← hL] at HS0
  have HS := Lib.hid HS0
  clear HS0
  have hL0 : 0 < L := by unfold isF at hf; omega
  have HL := Lib.hid hL
  clear hL
  have zm : (0 : Int) ≤ (many : Int) := by omega
  have ym : (many : Int) ≤ 4096 := by omega
  go_enter Try.func86, Try.ntmps86
  go_wp2_with fail
  refine (HV.out _).mono ?_
  rintro e W1 ⟨rfl, k1⟩
  go_wp2_with fail
  go_loopg [8, 9] K (fun gk v m wr => ∃ (k : Nat) (S : Nat → Prop), k ≤ K ∧ gk = K - k ∧ St k (s0 + ((k - (okL D L f k).length : Nat) : Int)) S wr ∧ wr.ownsRow w.heap.size 28 2 v ((okL D L f k).length) (elemsV (okL D L f k)) ∧ m = .int .i64 ((mis D L f k : Nat) : Int) ∧ Chg S0 w wr ∧ (∀ i, S i → S0 i ∨ w.heap.size ≤ i) ∧ (∀ g, v.ownBlock = some g → ¬ S g))
  case atStart =>
    refine ⟨0, S0, Nat.zero_le _, rfl, ?_, World.ownsRow_nil _ _ _ _, rfl, Chg.of_kept k1, fun i h => .inl h, fun g hg => by cases hg⟩
    have := hS.stab _ _ _ _ _ (fun _ => False) h0 (Chg.of_kept k1) (fun _ _ h => h) (fun _ h => h.elim)
    simpa [okL] using this
  case round =>
    clear k1
    obtain ⟨k, S, hkK0, hgk, st, own, rfl, kk, hS', hdis⟩ := hrel
    have hlk := okL_le D L f k
    rcases Nat.lt_or_ge k K with hkK | hge
    · have hlt := hK.out k hkK
      have ylt : ((okL D L f k).length : Int) < (many : Int) := by omega
      obtain ⟨va, vc, rfl⟩ := own_form28 own
      go_wp2_with fail
      refine (HS.out _).mono ?_
      rintro e W2 ⟨rfl, hk2⟩
      have st2 := hS.stab _ _ _ _ _ (fun _ => False) st (Chg.of_kept hk2) (fun _ _ h => h) (fun _ h => h.elim)
      have own2 := ownsRow_kept own hk2
      have kk2 := kk.trans_kept hk2
      have sz2 : w.heap.size ≤ W2.heap.size := Nat.le_trans kk.size hk2.size
      clear st own kk hk2
      go_wp2_with fail
      refine (hS.next k _ S W2 (by omega) st2).mono ?_
      rintro e W3 ⟨bv, S3, rfl, ov3, st3, k3, hS3⟩
      have hdis3 : ∀ g, (Value.slice va ((okL D L f k).length) vc).ownBlock = some g → ¬ S3 g := fun g hg h => by
        rcases hS3 g h with h | h
        · exact hdis g hg h
        · have := own_lt own2 hg
          omega
      have own3 := k3.own own2 hdis
      have hS3' : ∀ i, S3 i → S0 i ∨ w.heap.size ≤ i := fun i h => by
        rcases hS3 i h with h | h
        · exact hS' i h
        · right; omega
      have kk3 := kk2.trans k3 (fun i hi h => by
        rcases hS' i h with h | h
        · exact h
        · omega)
      have sz3 := Nat.le_trans sz2 k3.size
      obtain ⟨gb, cb, rfl, hcb, _, _, _, hcl⟩ := own_at ov3 hL0
      have hpl := pieceL_length D L k
      have HT := f_Take hf (bs := pieceL D L k) (by rw [hpl]; exact HL.out) (by
        intro z hz
        obtain ⟨j, _, rfl⟩ := List.mem_map.1 hz
        exact hD.out _) W3 (g := gb) (o := 0) (cap := cb) (by rw [hpl]; exact hcb) (fun j hj => by
        rw [hpl] at hj
        rw [pieceL_getD D L k hj, Nat.zero_add]
        exact hcl j hj)
      rw [hpl] at HT
      have htk : leVal (pieceL D L k) = tk D L k := rfl
      rw [htk] at HT
      clear own2 kk2 k3 hS3 hcl st2
      go_wp2_with fail
      by_cases hok : tk D L k < rP f
      · skip
        have HO : Hid (okL D L f (k + 1) = okL D L f k ++ [tk D L k] ∧ mis D L f (k + 1) = 0) := Lib.hid ⟨if_pos hok, if_pos hok⟩
        rw [if_pos hok] at HT
        obtain ⟨r0, hr0⟩ : ∃ r, tk D L k % 18446744073709551616 = r := ⟨_, rfl⟩
        obtain ⟨r1, hr1⟩ : ∃ r, tk D L k / 18446744073709551616 = r := ⟨_, rfl⟩
        have hE : E (tk D L k) = .agg #[.int .u64 r0, .int .u64 r1] := by rw [E_pair, hr0, hr1]
        rw [hE] at HT
        have HT := Lib.hid HT
        have HR : Hid (elemsV (okL D L f (k + 1)) = elemsV (okL D L f k) ++ [.int .u64 r0, .int .u64 r1]) := Lib.hid (by rw [HO.out.1, elemsV_append, hr0, hr1])
        clear hr0 hr1 hE
        refine HT.out.mono ?_
        rintro e W4 ⟨rfl, hk4⟩
        have st4 := hS.stab _ _ _ _ _ (fun _ => False) st3 (Chg.of_kept hk4) (fun _ _ h => h) (fun _ h => h.elim)
        have own4 := ownsRow_kept own3 hk4
        have kk4 := kk3.trans_kept hk4
        have sz4 := Nat.le_trans sz3 hk4.size
        clear st3 own3 kk3 hk4 HT ov3
        obtain ⟨g10, hg10⟩ : ∃ g, W4.heap.size = g := ⟨_, rfl⟩
        go_upto_region 12 with (fail)
        try simp only [hg10]
        refine abs_world (fun W => Kept W4 W ∧ Blk W g10 28 #[.int .u64 r0, .int .u64 r1]) ⟨?_, ?_⟩ ?_
        · have nw8 : W4.heap.size ≤ g10 := by omega
          repeat (first | exact Kept.refl _ | (refine Kept.setCell ?_ (kept_side (by first | assumption | omega)) _) | apply Kept.alloc | apply Kept.drew)
        · simp [Blk, *]
        clear hg10
        rintro W5 ⟨hk5, B5⟩
        have st5 := hS.stab _ _ _ _ _ (fun _ => False) st4 (Chg.of_kept hk5) (fun _ _ h => h) (fun _ h => h.elim)
        have own5 := ownsRow_kept own4 hk5
        have kk5 := kk4.trans_kept hk5
        have sz5 := Nat.le_trans sz4 hk5.size
        clear st4 own4 kk4 hk5
        have d0 := B5.cell 0 rfl
        have d1 := B5.cell 1 rfl
        go_wp2_with (at_builtin; refine append_elem own5 r0 r1 (by omega) sz5 (.tmp 41) (.tmp 43) rfl rfl rfl rfl ?_; intro v6 W6 own6 gr6 at6)
        have kg := chg_grown gr6
        have st6 := hS.stab _ _ _ _ _ _ st5 kg (fun i hi h => hdis3 i h hi) (fun i h => Nat.le_trans hF (own_lt own5 h).1)
        have lS := hS.lt _ _ _ _ st5
        have kk6 := kk5.grown gr6 (fun g hg => .inr (own_lt own5 hg).1)
        have hdis6 : ∀ g, v6.ownBlock = some g → ¬ S3 g := fun g hg h => by
          rcases at6 with h2 | h2
          · exact hdis3 g (by rw [← h2]; exact hg) h
          · rw [h2] at hg
            have := lS g h
            have e : W5.heap.size + 1 = g := Option.some.inj hg
            omega
        clear st5 own5 kk5 kg gr6 at6 d0 d1 B5
        go_wp2_with fail
        go_roundg (K - (k + 1))
        case measure => omega
        case rel =>
          have hlen : (okL D L f (k + 1)).length = (okL D L f k).length + 1 := by rw [HO.out.1]; simp
          refine ⟨k + 1, S3, by omega, rfl, ?_, ?_, by rw [HO.out.2]; rfl, kk6, hS3', hdis6⟩
          · have e : (k + 1 - (okL D L f (k + 1)).length : Nat) = k - (okL D L f k).length := by rw [hlen]; omega
            rw [e]
            exact st6
          · rw [HR.out, hlen]
            exact own6
      · skip
        have HO : Hid (okL D L f (k + 1) = okL D L f k ∧ mis D L f (k + 1) = mis D L f k + 1) := Lib.hid ⟨if_neg hok, if_neg hok⟩
        rw [if_neg hok, E_nought] at HT
        have HT := Lib.hid HT
        refine HT.out.mono ?_
        rintro e W4 ⟨rfl, hk4⟩
        have st4 := hS.stab _ _ _ _ _ (fun _ => False) st3 (Chg.of_kept hk4) (fun _ _ h => h) (fun _ h => h.elim)
        have own4 := ownsRow_kept own3 hk4
        have kk4 := kk3.trans_kept hk4
        clear st3 own3 kk3 hk4 HT ov3
        obtain ⟨g10, hg10⟩ : ∃ g, W4.heap.size = g := ⟨_, rfl⟩
        go_upto_region 13 with (fail)
        try simp only [hg10]
        refine abs_world (fun W => Kept W4 W) ?_ ?_
        · have nw8 : W4.heap.size ≤ g10 := by omega
          repeat (first | exact Kept.refl _ | (refine Kept.setCell ?_ (kept_side (by first | assumption | omega)) _) | apply Kept.alloc | apply Kept.drew)
        clear hg10
        rintro W5' hk5
        have st5 := hS.stab _ _ _ _ _ (fun _ => False) st4 (Chg.of_kept hk5) (fun _ _ h => h) (fun _ h => h.elim)
        have own5' := ownsRow_kept own4 hk5
        have kk5' := kk4.trans_kept hk5
        clear st4 own4 kk4 hk5
        have cx := hS.cell _ _ _ _ st5
        have fx := hS.free _ _ _ _ st5
        obtain ⟨sk, hsk⟩ : ∃ z : Int, s0 + ((k - (okL D L f k).length : Nat) : Int) = z := ⟨_, rfl⟩
        have hsk1 : s0 + ((k + 1 - (okL D L f k).length : Nat) : Int) = sk + 1 := by have := okL_le D L f k; omega
        have hws : IntKind.i64.wrap (sk + 1) = sk + 1 := IntWalk.i64_in _ (by have := okL_le D L f k; omega)
        rw [hsk] at st5 cx
        have st6 := hS.skip _ _ _ _ st5
        have kx := chg_set W5' x 4 (.int .i64 (sk + 1))
        have hSx := hS.own _ _ _ _ st5
        go_upto_region 14 with (fail)
        refine abs_world (fun W => St (k + 1) (sk + 1) S3 W ∧ W.ownsRow w.heap.size 28 2 (.slice va ((okL D L f k).length) vc) ((okL D L f k).length) (elemsV (okL D L f k)) ∧ Chg S0 w W) ⟨st6, kx.own own5' (fun g hg h => hdis3 g hg (h ▸ hSx)), kk5'.trans kx (fun i hi h => by
          subst h
          rcases hS3' i hSx with h | h
          · exact h
          · omega)⟩ ?_
        clear cx fx st5 st6 own5' kk5' kx
        rintro W5 ⟨st5', own5, kk5⟩
        rw [← hsk1] at st5'
        clear hsk hsk1 hws
        have h64 : mis D L f k + 1 < 64 := by rw [← HO.out.2]; exact hm.out _ hkK
        have y64 : ((mis D L f k : Nat) : Int) + 1 ≠ 64 := by omega
        have y64b : (((mis D L f k : Nat) : Int) + 1 == 64) = false := by simp [y64]
        go_wp2_with fail
        go_roundg (K - (k + 1))
        case measure => omega
        case rel => exact ⟨k + 1, S3, by omega, rfl, by rw [HO.out.1]; exact st5', by rw [HO.out.1]; exact own5, by rw [HO.out.2]; simp, kk5, hS3', hdis3⟩
    · skip
      obtain rfl : k = K := by omega
      rw [hend] at own
      have yl : ((okL D L f k).length : Int) = (many : Int) := by rw [hend]
      obtain ⟨va, vc, rfl⟩ := own_form28 own
      go_wp2_with fail
      go_ret2
      exact ⟨_, S, rfl, own, hdis, st, kk, hS'⟩
end Go.Proofs.Ytnajihlhcdedgaa

namespace Go.Proofs.Ytnajihlhcdedgaa
open Go.RowKit
set_option linter.unusedVariables false
set_option linter.unusedSimpArgs false
/-- The lanes behind the end. -/
def kend (s : Nat → Int) (a : Nat) (d : Int) : Nat → Int := kperm 12 (kflip (kflip (norm s a) (normA a) d) 167 128)
set_option maxRecDepth 100000 in
set_option maxHeartbeats 4000000 in
theorem k_end (w : World) (b : Nat) (u : Nat → Int) (m : Nat) (hm : m ≤ 168) (d : Int) (d0 : 0 ≤ d) (d1 : d ≤ 255) (B : Sp w b u m d false) :
    Calls Try.prog 128 #[.pointer (some ⟨b, 0, none⟩)] w fun e w' => e = .returned (.tuple #[]) ∧ Touch b w w' ∧ Sp w' b (kend u m d) 0 d true := by
  have HV : Hid (kend u m d = kperm 12 (kflip (kflip (norm u m) (normA m) d) 167 128)) := Lib.hid rfl
  have ca := B.sat
  have fa := B.free
  by_cases h168 : m = 168
  · subst h168
    go_enter Try.func128, Try.ntmps128
    go_wp2_with fail
    refine (k_permute _ b 28 139 u _ (by omega) B).mono ?_
    rintro e W1 ⟨rfl, k1, B1⟩
    clear ca fa B
    have ca := B1.sat
    have fa := B1.free
    go_upto_region 3 with (fail)
    refine abs_world (fun W => Touch b w W ∧ Sp W b (kperm 12 u) 0 d false) ⟨k1.trans (Touch.set _ _ _ _), B1.setAt 0⟩ ?_
    clear ca fa B1 k1
    rintro W2 ⟨k2, B2⟩
    have ca := B2.sat
    have cd := B2.sdom
    refine wp_region_calm 9 (by kernel_rfl) (by kernel_rfl) ?_
    simp only [List.take_succ_cons, List.take_zero, List.drop_succ_cons, List.drop_zero]
    repeat (first
      | (refine calm_skip rfl ?_; simp only [Act.put, List.setIfInBounds_toArray, List.set_cons_zero, List.set_cons_succ])
      | (refine calm_ex rfl ?_; apply Exists.intro; refine And.intro (fun w' hk => ?_) ?_; (focus (have q0 := hk.cell ca; have q1 := hk.cell cd; clear hk; go_simp; exact rfl)); simp only [Act.put, List.setIfInBounds_toArray, List.set_cons_zero, List.set_cons_succ]))
    refine calm_nil ?_
    intro W3 hkW3
    have k3 := k2.later hkW3
    have B3 := B2.kept hkW3
    clear ca cd k2 B2 hkW3
    go_wp2_with fail
    refine (k_flip _ b _ 0 d false 0 (by omega) d d0 d1 B3).mono ?_
    rintro e W4 ⟨rfl, k4, B4⟩
    have k5 := k3.trans k4
    clear k3 k4 B3
    go_wp2_with fail
    refine (k_flip _ b _ 0 d false 167 (by omega) 128 (by omega) (by omega) B4).mono ?_
    rintro e W5 ⟨rfl, k6, B5⟩
    have k7 := k5.trans k6
    clear k5 k6 B4
    go_wp2_with fail
    refine (k_permute _ b 28 139 _ _ (by omega) B5).mono ?_
    rintro e W6 ⟨rfl, k8, B6⟩
    have k9 := k7.trans k8
    clear k7 k8 B5
    have ca := B6.sat
    have cg := B6.sgive
    have fa := B6.free
    go_wp2_with fail
    refine bodyPost_end (v := .tuple #[]) (by simp [results, Try.results128, go_sem]) rfl ⟨rfl, (k9.trans (Touch.set _ _ _ _)).trans (Touch.set _ _ _ _), ?_⟩
    rw [HV.out]
    exact (B6.setAt 0).setGive true
  · have hm2 : (m : Int) ≠ 168 := by omega
    have hm3 : ((m : Int) == 168) = false := by simp [hm2]
    have HN : Hid (norm u m = u ∧ normA m = m) := Lib.hid ⟨if_neg h168, if_neg h168⟩
    go_enter Try.func128, Try.ntmps128
    go_upto_region 3 with (fail)
    clear fa
    have cd := B.sdom
    refine wp_region_calm 9 (by kernel_rfl) (by kernel_rfl) ?_
    simp only [List.take_succ_cons, List.take_zero, List.drop_succ_cons, List.drop_zero]
    repeat (first
      | (refine calm_skip rfl ?_; simp only [Act.put, List.setIfInBounds_toArray, List.set_cons_zero, List.set_cons_succ])
      | (refine calm_ex rfl ?_; apply Exists.intro; refine And.intro (fun w' hk => ?_) ?_; (focus (have q0 := hk.cell ca; have q1 := hk.cell cd; clear hk; go_simp; exact rfl)); simp only [Act.put, List.setIfInBounds_toArray, List.set_cons_zero, List.set_cons_succ]))
    refine calm_nil ?_
    intro W3 hkW3
    have k3 : Touch b w W3 := .of_kept hkW3
    have B3 := B.kept hkW3
    clear ca cd B hkW3
    go_wp2_with fail
    refine (k_flip _ b _ m d false m (by omega) d d0 d1 B3).mono ?_
    rintro e W4 ⟨rfl, k4, B4⟩
    have k5 := k3.trans k4
    clear k3 k4 B3
    go_wp2_with fail
    refine (k_flip _ b _ m d false 167 (by omega) 128 (by omega) (by omega) B4).mono ?_
    rintro e W5 ⟨rfl, k6, B5⟩
    have k7 := k5.trans k6
    clear k5 k6 B4
    go_wp2_with fail
    refine (k_permute _ b 28 139 _ _ (by omega) B5).mono ?_
    rintro e W6 ⟨rfl, k8, B6⟩
    have k9 := k7.trans k8
    clear k7 k8 B5
    have ca := B6.sat
    have cg := B6.sgive
    have fa := B6.free
    go_wp2_with fail
    refine bodyPost_end (v := .tuple #[]) (by simp [results, Try.results128, go_sem]) rfl ⟨rfl, (k9.trans (Touch.set _ _ _ _)).trans (Touch.set _ _ _ _), ?_⟩
    rw [HV.out, HN.out.1, HN.out.2]
    exact (B6.setAt 0).setGive true
end Go.Proofs.Ytnajihlhcdedgaa

namespace Go.Proofs.Ytnajihlhcdedgaa
open Go.RowKit
set_option linter.unusedVariables false
set_option linter.unusedSimpArgs false
/-- The lanes and the place when i bytes are out. -/
def gives (s : Nat → Int) (a : Nat) : Nat → (Nat → Int) × Nat
  | 0 => (s, a)
  | i + 1 => (norm (gives s a i).1 (gives s a i).2, normA (gives s a i).2 + 1)
/-- Byte a of the lanes. -/
def byteAt (s : Nat → Int) (a : Nat) : Int := s (a / 8) / 2 ^ (8 * (a % 8)) % 256
/-- The i-th byte that comes out. -/
def outs (s : Nat → Int) (a : Nat) (i : Nat) : Int := byteAt (norm (gives s a i).1 (gives s a i).2) (normA (gives s a i).2)
theorem gives_le (s : Nat → Int) {a : Nat} (ha : a ≤ 168) : ∀ i, (gives s a i).2 ≤ 168
  | 0 => ha
  | i + 1 => by
    have := gives_le s ha i
    simp only [gives, normA]
    split <;> omega
theorem make42 (c : Nat) (h63 : (c : Int) ≤ 65536) : ∃ cs, ∀ w : World, (Instr.makeSlice 42 (.int .i64 0) (.int .i64 (c : Int))).run Try.prog w = .ok (.slice (some ⟨w.heap.size, 0, none⟩) 0 c) (w.alloc (.cells cs 5)) ∧ (w.alloc (.cells cs 5)).ownsRow w.heap.size 5 1 (.slice (some ⟨w.heap.size, 0, none⟩) 0 c) 0 [] := by
  obtain ⟨i, hi, hz0, hz1, hz2⟩ := info_parts info5
  refine ⟨madeCells (Value.int .u8 0).cells (c * i.size), fun w => ?_⟩
  have hr := run_make (P := Try.prog) w 42 5 i _ Try.underlying42 hi hz0 .i64 .i64 0 c (Int.le_refl _) (by omega) (by rw [hz2]; omega) (by omega)
  simp only [Int.toNat_zero, Int.toNat_natCast] at hr
  refine ⟨hr, ?_⟩
  have := World.ownsRow_made (base := w.heap.size) w (madeCells (Value.int .u8 0).cells (c * i.size)) c (e := 5) (size := 1) (Nat.le_refl _) (by unfold maxLen; omega) (by rw [size_madeCells, hz1])
  exact this
theorem gives_in {s : Nat → Int} (hs : ∀ i, i < 25 → in64 (s i)) (a : Nat) : ∀ i, ∀ j, j < 25 → in64 ((gives s a i).1 j)
  | 0 => hs
  | i + 1 => by
    have := gives_in hs a i
    simp only [gives, norm]
    split
    · exact kperm_in this 12
    · exact this
theorem wrap_u8 (x : Int) : IntKind.u8.wrap x = x % 256 := by simp [IntKind.wrap, IntKind.bits, IntKind.signed]
theorem kend_in (s : Nat → Int) (a : Nat) (d : Int) : ∀ i, i < 25 → in64 (kend s a d i) := by
  intro i _
  unfold kend
  exact kround_in _ _ _
/-- The bytes that come out. -/
def outsV (s : Nat → Int) (a n : Nat) : List Value := (List.range n).map fun i => Value.int .u8 (outs s a i)
set_option maxRecDepth 100000 in
set_option maxHeartbeats 4000000 in
theorem k_Read_le (w : World) (b : Nat) (s : Nat → Int) (d : Int) (p : Nat) (hp : p ≤ 168) (hs : Hid (∀ i, i < 25 → in64 (s i))) (many : Nat) (hm : many ≤ 65536) (hB : Sp w b s p d true) :
    Calls Try.prog 67 #[.pointer (some ⟨b, 0, none⟩), .int .i64 (many : Int)] w fun e w' => ∃ v, e = .returned v ∧ Touch b w w' ∧ Sp w' b (gives s p many).1 (gives s p many).2 d true ∧ w'.ownsRow w.heap.size 5 1 v many (outsV s p many) := by
  have c0 := hB.sgive
  have z0 : (0 : Int) ≤ (many : Int) := by omega
  have y1 : (many : Int) ≤ 65536 := by omega
  obtain ⟨cs, hmk0⟩ := make42 many (by omega)
  go_enter Try.func67, Try.ntmps67
  obtain ⟨hmk1, hown0⟩ := hmk0 w
  have hmk : (Instr.makeSlice 42 (.int .i64 0) (.int .i64 (many : Int))).run Try.prog w = .ok (.slice (some ⟨w.heap.size, 0, none⟩) 0 many) (w.alloc (.cells cs 5)) := hmk1
  clear hmk1 hmk0
  obtain ⟨g, hg⟩ : ∃ g, w.heap.size = g := ⟨_, rfl⟩
  rw [hg] at hmk hown0
  have hbg : b < g := hg ▸ hB.lt
  have hwg : w.heap.size ≤ g := by omega
  go_upto_region 6 with (fail)
  refine abs_world (fun W => Touch b w W ∧ Sp W b s p d true ∧ W.ownsRow g 5 1 (.slice (some ⟨g, 0, none⟩) 0 many) 0 [] ∧ g ≤ W.heap.size) ⟨Touch.alloc _ _ _, hB.alloc _, hown0, by simp; omega⟩ ?_
  rintro W1 ⟨k, B, hown, hgW⟩
  clear c0 hB hown0 hmk
  go_wp2_with fail
  go_loopw [5, 24] (fun v t' wr => ∃ i : Nat, i ≤ many ∧ t' = .int .i64 i ∧ Touch b w wr ∧ Sp wr b (gives s p i).1 (gives s p i).2 d true ∧ wr.ownsRow g 5 1 v i (outsV s p i) ∧ g ≤ wr.heap.size) (fun _ t' _ => many - (intOf t').toNat)
  case atStart => exact ⟨0, Nat.zero_le _, rfl, k, B, hown, hgW⟩
  case round =>
    clear k B hown hgW
    obtain ⟨i, hi, rfl, k, B, hown, hgW⟩ := hrel
    have zi : (0 : Int) ≤ (i : Int) := by omega
    obtain ⟨sa, sn, sc, rfl⟩ := ownsRow_slice hown
    rcases Nat.lt_or_ge i many with hlt | hge
    · have yi : (i : Int) < (many : Int) := by omega
      have hple := gives_le s (a := p) (by omega) i
      have hin0 := gives_in hs.out p i
      have HV : Hid (gives s p (i + 1) = (norm (gives s p i).1 (gives s p i).2, normA (gives s p i).2 + 1) ∧ outsV s p (i + 1) = outsV s p i ++ [.int .u8 (byteAt (norm (gives s p i).1 (gives s p i).2) (normA (gives s p i).2))]) := Lib.hid ⟨rfl, by unfold outsV; rw [List.range_succ, List.map_append]; rfl⟩
      generalize (gives s p i).1 = u at *
      generalize (gives s p i).2 = m at *
      have ca := B.sat
      have fa := B.free
      by_cases hm168 : m = 168
      · subst hm168
        go_wp2_with fail
        refine (k_permute _ b 28 139 u _ (by omega) B).mono ?_
        rintro e W2 ⟨rfl, k1, B1⟩
        have k2 := k.trans k1
        have hown2 := ownsRow_touch hown k1 hbg
        have hgW2 : g ≤ W2.heap.size := Nat.le_trans hgW k1.size
        clear k k1 ca fa B hown hgW
        have ca := B1.sat
        have fa := B1.free
        go_upto_region 11 with (fail)
        obtain ⟨m0, hm0, hm0l⟩ : ∃ m0 : Nat, Hid (m0 = 0) ∧ m0 < 168 := ⟨0, Lib.hid rfl, by omega⟩
        refine abs_world (fun W => Touch b w W ∧ Sp W b (kperm 12 u) (m0 : Int) d true ∧ W.ownsRow g 5 1 (.slice sa sn sc) i (outsV s p i) ∧ g ≤ W.heap.size) ⟨k2.trans (Touch.set _ _ _ _), by rw [hm0.out]; exact B1.setAt 0, ownsRow_touch hown2 (Touch.set _ _ _ _) hbg, by simpa [World.setCell] using hgW2⟩ ?_
        clear ca fa k2 B1 hown2 hgW2
        rintro W4 ⟨k, B, hown, hgW⟩
        have hin : ∀ j, j < 25 → in64 (kperm 12 u j) := kperm_in hin0 12
        obtain ⟨q, hq, hq25⟩ : ∃ q, m0 / 8 = q ∧ q < 25 := ⟨_, rfl, by omega⟩
        obtain ⟨r, hr, hr8⟩ : ∃ r, m0 % 8 = r ∧ r < 8 := ⟨_, rfl, by omega⟩
        obtain ⟨z, hz, hz56⟩ : ∃ z, 8 * r = z ∧ z ≤ 56 := ⟨_, rfl, by omega⟩
        have e1 : (m0 : Int).tdiv 8 = (q : Int) := by rw [Int.tdiv_eq_ediv_of_nonneg (by omega)]; omega
        have e1' : (m0 : Int) / 8 = (q : Int) := by omega
        have e2 : (m0 : Int).tmod 8 = (r : Int) := by rw [Int.tmod_eq_emod_of_nonneg (by omega)]; omega
        have e2' : (m0 : Int) % 8 = (r : Int) := by omega
        have e3 : 8 * (r : Int) = (z : Int) := by omega
        have w1 : IntKind.i64.wrap (q : Int) = (q : Int) := IntWalk.i64_in _ (by omega)
        have w2 : IntKind.i64.wrap (z : Int) = (z : Int) := IntWalk.i64_in _ (by omega)
        have z1 : (0 : Int) ≤ (q : Int) := by omega
        have z2 : (q : Int) < 25 := by omega
        have z3 : (0 : Int) ≤ (z : Int) := by omega
        have z4 : (z : Int) ≤ 64 := by omega
        have cl := B.lane (by omega) hq25
        have ca := B.sat
        have HB : Hid (byteAt (kperm 12 u) m0 = IntKind.u8.wrap ((kperm 12 u) q / 2 ^ z)) := Lib.hid (by unfold byteAt; rw [hq, hr, hz, wrap_u8])
        obtain ⟨x0, hx0, hx0a, hx0b⟩ : ∃ x0, (kperm 12 u) q = x0 ∧ 0 ≤ x0 ∧ x0 ≤ 18446744073709551615 := ⟨_, rfl, by have := hin q hq25; unfold in64 at this; omega, by have := hin q hq25; unfold in64 at this; omega⟩
        rw [hx0] at cl HB
        clear hx0 hq hr hz
        refine wp_region_marks_in (fun _ => oneMean 5 #[.int .u8 (IntKind.u8.wrap (x0 / 2 ^ z))]) 20 (by kernel_rfl) (by kernel_rfl) (fun k0 => ?_)
        simp only [List.take_succ_cons, List.take_zero, List.drop_succ_cons, List.drop_zero]
        repeat (first
          | (refine marks_ex rfl rfl (by kernel_rfl) ?_; apply Exists.intro; refine And.intro (fun w' hk => ?_) (And.intro ?_ ?_); (focus (have q0 := hk.cell cl; have q1 := hk.cell ca; clear hk; go_simp; exact rfl)); (focus (exact rfl)); simp only [Act.put, List.setIfInBounds_toArray, List.set_cons_zero, List.set_cons_succ]))
        refine marks_lay 0 rfl rfl (by kernel_rfl) (fun w' hk => ?_) ?_
        · refine ⟨_, _, by go_simp, (Kept.refl w').alloc _, ⟨_, rfl, Blk.new _ _ _⟩⟩
        simp only [Act.put, List.setIfInBounds_toArray, List.set_cons_zero, List.set_cons_succ]
        refine marks_nil ?_
        intro a'' W5 hkW5 hra
        obtain ⟨mb, hmb, rfl⟩ := hra.mark1 57 0 (by kernel_rfl) rfl
        simp only [Act.put, List.setIfInBounds_toArray, List.set_cons_zero, List.set_cons_succ]
        clear hra
        obtain ⟨nb, rfl, Bn⟩ := hmb
        have k5 := k.later hkW5
        have B5 := B.kept hkW5
        have hown5 := ownsRow_kept hown hkW5
        have hg5 : g ≤ W5.heap.size := Nat.le_trans hgW hkW5.size
        clear ca cl hkW5 k B hown
        go_wp2_with (at_builtin; refine wpList_append_at 42 5 info5 Try.underlying42 rfl (by decide) hown5 nb 0 1 1 [.int .u8 (IntKind.u8.wrap (x0 / 2 ^ z))] rfl (by intro u hu; simp at hu; subst hu; rfl) (by intro j u hj; rw [Nat.zero_add]; exact Bn.cell j (by simpa using hj)) (by omega) (by decide) (by decide) hg5 (.tmp 38) (.tmp 57) rfl rfl rfl rfl ?_; intro v' w1 hown6 hgrow hne; have k6 := k5.grown hown5 hgrow (by omega); have B6 := grown_blk B5 hown5 hgrow (by omega); have hg6 : g ≤ w1.heap.size := Nat.le_trans hg5 hgrow.size; clear hown5 hgrow k5 B5 Bn hg5; have ca := B6.sat; have fa := B6.free; have w5 : IntKind.i64.wrap ((m0 : Int) + 1) = (m0 : Int) + 1 := IntWalk.i64_in _ (by omega))
        go_roundw
        case rel => exact ⟨i + 1, by omega, by go_num, k6.trans (Touch.set _ _ _ _), by rw [HV.out.1]; show Sp _ b (kperm 12 u) ((0 + 1 : Nat) : Int) d true; rw [show ((0 + 1 : Nat) : Int) = (m0 : Int) + 1 by rw [hm0.out]; rfl]; exact B6.setAt ((m0 : Int) + 1), by rw [HV.out.2]; show World.ownsRow _ _ _ _ _ _ (outsV s p i ++ [.int .u8 (byteAt (kperm 12 u) 0)]); have h9 := HB.out; rw [hm0.out] at h9; rw [h9]; exact ownsRow_touch hown6 (Touch.set _ _ _ _) hbg, by simpa [World.setCell] using hg6⟩
        case measure => simp [intOf]; omega
      · have hm2 : (m : Int) ≠ 168 := by omega
        have hm3 : ((m : Int) == 168) = false := by simp [hm2]
        have HN : Hid (norm u m = u ∧ normA m = m) := Lib.hid ⟨if_neg hm168, if_neg hm168⟩
        have hin := hin0
        go_upto_region 11 with (fail)
        clear ca fa
        obtain ⟨q, hq, hq25⟩ : ∃ q, m / 8 = q ∧ q < 25 := ⟨_, rfl, by omega⟩
        obtain ⟨r, hr, hr8⟩ : ∃ r, m % 8 = r ∧ r < 8 := ⟨_, rfl, by omega⟩
        obtain ⟨z, hz, hz56⟩ : ∃ z, 8 * r = z ∧ z ≤ 56 := ⟨_, rfl, by omega⟩
        have e1 : (m : Int).tdiv 8 = (q : Int) := by rw [Int.tdiv_eq_ediv_of_nonneg (by omega)]; omega
        have e1' : (m : Int) / 8 = (q : Int) := by omega
        have e2 : (m : Int).tmod 8 = (r : Int) := by rw [Int.tmod_eq_emod_of_nonneg (by omega)]; omega
        have e2' : (m : Int) % 8 = (r : Int) := by omega
        have e3 : 8 * (r : Int) = (z : Int) := by omega
        have w1 : IntKind.i64.wrap (q : Int) = (q : Int) := IntWalk.i64_in _ (by omega)
        have w2 : IntKind.i64.wrap (z : Int) = (z : Int) := IntWalk.i64_in _ (by omega)
        have z1 : (0 : Int) ≤ (q : Int) := by omega
        have z2 : (q : Int) < 25 := by omega
        have z3 : (0 : Int) ≤ (z : Int) := by omega
        have z4 : (z : Int) ≤ 64 := by omega
        have cl := B.lane (by omega) hq25
        have ca := B.sat
        have HB : Hid (byteAt u m = IntKind.u8.wrap (u q / 2 ^ z)) := Lib.hid (by unfold byteAt; rw [hq, hr, hz, wrap_u8])
        obtain ⟨x0, hx0, hx0a, hx0b⟩ : ∃ x0, u q = x0 ∧ 0 ≤ x0 ∧ x0 ≤ 18446744073709551615 := ⟨_, rfl, by have := hin q hq25; unfold in64 at this; omega, by have := hin q hq25; unfold in64 at this; omega⟩
        rw [hx0] at cl HB
        clear hx0 hq hr hz
        refine wp_region_marks_in (fun _ => oneMean 5 #[.int .u8 (IntKind.u8.wrap (x0 / 2 ^ z))]) 20 (by kernel_rfl) (by kernel_rfl) (fun k0 => ?_)
        simp only [List.take_succ_cons, List.take_zero, List.drop_succ_cons, List.drop_zero]
        repeat (first
          | (refine marks_ex rfl rfl (by kernel_rfl) ?_; apply Exists.intro; refine And.intro (fun w' hk => ?_) (And.intro ?_ ?_); (focus (have q0 := hk.cell cl; have q1 := hk.cell ca; clear hk; go_simp; exact rfl)); (focus (exact rfl)); simp only [Act.put, List.setIfInBounds_toArray, List.set_cons_zero, List.set_cons_succ]))
        refine marks_lay 0 rfl rfl (by kernel_rfl) (fun w' hk => ?_) ?_
        · refine ⟨_, _, by go_simp, (Kept.refl w').alloc _, ⟨_, rfl, Blk.new _ _ _⟩⟩
        simp only [Act.put, List.setIfInBounds_toArray, List.set_cons_zero, List.set_cons_succ]
        refine marks_nil ?_
        intro a'' W5 hkW5 hra
        obtain ⟨mb, hmb, rfl⟩ := hra.mark1 57 0 (by kernel_rfl) rfl
        simp only [Act.put, List.setIfInBounds_toArray, List.set_cons_zero, List.set_cons_succ]
        clear hra
        obtain ⟨nb, rfl, Bn⟩ := hmb
        have k5 := k.later hkW5
        have B5 := B.kept hkW5
        have hown5 := ownsRow_kept hown hkW5
        have hg5 : g ≤ W5.heap.size := Nat.le_trans hgW hkW5.size
        clear ca cl hkW5 k B hown
        go_wp2_with (at_builtin; refine wpList_append_at 42 5 info5 Try.underlying42 rfl (by decide) hown5 nb 0 1 1 [.int .u8 (IntKind.u8.wrap (x0 / 2 ^ z))] rfl (by intro u hu; simp at hu; subst hu; rfl) (by intro j u hj; rw [Nat.zero_add]; exact Bn.cell j (by simpa using hj)) (by omega) (by decide) (by decide) hg5 (.tmp 38) (.tmp 57) rfl rfl rfl rfl ?_; intro v' w1 hown6 hgrow hne; have k6 := k5.grown hown5 hgrow (by omega); have B6 := grown_blk B5 hown5 hgrow (by omega); have hg6 : g ≤ w1.heap.size := Nat.le_trans hg5 hgrow.size; clear hown5 hgrow k5 B5 Bn hg5; have ca := B6.sat; have fa := B6.free; have w5 : IntKind.i64.wrap ((m : Int) + 1) = (m : Int) + 1 := IntWalk.i64_in _ (by omega))
        go_roundw
        case rel => exact ⟨i + 1, by omega, by go_num, k6.trans (Touch.set _ _ _ _), by rw [HV.out.1, HN.out.1, HN.out.2]; exact B6.setAt _, by rw [HV.out.2, HN.out.1, HN.out.2, HB.out]; exact ownsRow_touch hown6 (Touch.set _ _ _ _) hbg, by simpa [World.setCell] using hg6⟩
        case measure => simp [intOf]; omega
    · have yi : (many : Int) ≤ (i : Int) := by omega
      obtain rfl : i = many := by omega
      go_wp2_with fail
      go_ret
      exact ⟨_, rfl, k, B, ownsRow_base hown hwg⟩
set_option maxRecDepth 100000 in
set_option maxHeartbeats 4000000 in
theorem k_End_le (w : World) (b : Nat) (s : Nat → Int) (d : Int) (p : Nat) (hp : p ≤ 168) (many : Nat) (hm : many ≤ 65536) (d0 : 0 ≤ d) (d1 : d ≤ 255) (hB : Sp w b s p d false) :
    Calls Try.prog 67 #[.pointer (some ⟨b, 0, none⟩), .int .i64 (many : Int)] w fun e w' => ∃ v, e = .returned v ∧ Touch b w w' ∧ Sp w' b (gives (kend s p d) 0 many).1 (gives (kend s p d) 0 many).2 d true ∧ w'.ownsRow w.heap.size 5 1 v many (outsV (kend s p d) 0 many) := by
  have c0 := hB.sgive
  have z0 : (0 : Int) ≤ (many : Int) := by omega
  have y1 : (many : Int) ≤ 65536 := by omega
  obtain ⟨cs, hmk0⟩ := make42 many (by omega)
  go_enter Try.func67, Try.ntmps67
  go_wp2_with fail
  refine (k_end _ b s p hp d d0 d1 hB).mono ?_
  rintro e W0 ⟨rfl, k0, B0⟩
  clear c0
  have hbase0 := k0.size
  obtain ⟨hmk1, hown0⟩ := hmk0 W0
  have hmk : (Instr.makeSlice 42 (.int .i64 0) (.int .i64 (many : Int))).run Try.prog W0 = .ok (.slice (some ⟨W0.heap.size, 0, none⟩) 0 many) (W0.alloc (.cells cs 5)) := hmk1
  clear hmk1 hmk0
  obtain ⟨g, hg⟩ : ∃ g, W0.heap.size = g := ⟨_, rfl⟩
  rw [hg] at hmk hown0
  have hbg : b < g := hg ▸ B0.lt
  have hwg : w.heap.size ≤ g := by omega
  go_upto_region 6 with (fail)
  refine abs_world (fun W => Touch b w W ∧ Sp W b (kend s p d) 0 d true ∧ W.ownsRow g 5 1 (.slice (some ⟨g, 0, none⟩) 0 many) 0 [] ∧ g ≤ W.heap.size) ⟨k0.trans (Touch.alloc _ _ _), B0.alloc _, hown0, by simp; omega⟩ ?_
  rintro W1 ⟨k, B, hown, hgW⟩
  clear hB B0 k0 hown0 hmk
  go_wp2_with fail
  go_loopw [5, 24] (fun v t' wr => ∃ i : Nat, i ≤ many ∧ t' = .int .i64 i ∧ Touch b w wr ∧ Sp wr b (gives (kend s p d) 0 i).1 (gives (kend s p d) 0 i).2 d true ∧ wr.ownsRow g 5 1 v i (outsV (kend s p d) 0 i) ∧ g ≤ wr.heap.size) (fun _ t' _ => many - (intOf t').toNat)
  case atStart => exact ⟨0, Nat.zero_le _, rfl, k, B, hown, hgW⟩
  case round =>
    clear k B hown hgW
    obtain ⟨i, hi, rfl, k, B, hown, hgW⟩ := hrel
    have zi : (0 : Int) ≤ (i : Int) := by omega
    obtain ⟨sa, sn, sc, rfl⟩ := ownsRow_slice hown
    rcases Nat.lt_or_ge i many with hlt | hge
    · have yi : (i : Int) < (many : Int) := by omega
      have hple := gives_le (kend s p d) (a := 0) (by omega) i
      have hin0 := gives_in (kend_in s p d) 0 i
      have HV : Hid (gives (kend s p d) 0 (i + 1) = (norm (gives (kend s p d) 0 i).1 (gives (kend s p d) 0 i).2, normA (gives (kend s p d) 0 i).2 + 1) ∧ outsV (kend s p d) 0 (i + 1) = outsV (kend s p d) 0 i ++ [.int .u8 (byteAt (norm (gives (kend s p d) 0 i).1 (gives (kend s p d) 0 i).2) (normA (gives (kend s p d) 0 i).2))]) := Lib.hid ⟨rfl, by unfold outsV; rw [List.range_succ, List.map_append]; rfl⟩
      generalize (gives (kend s p d) 0 i).1 = u at *
      generalize (gives (kend s p d) 0 i).2 = m at *
      have ca := B.sat
      have fa := B.free
      by_cases hm168 : m = 168
      · subst hm168
        go_wp2_with fail
        refine (k_permute _ b 28 139 u _ (by omega) B).mono ?_
        rintro e W2 ⟨rfl, k1, B1⟩
        have k2 := k.trans k1
        have hown2 := ownsRow_touch hown k1 hbg
        have hgW2 : g ≤ W2.heap.size := Nat.le_trans hgW k1.size
        clear k k1 ca fa B hown hgW
        have ca := B1.sat
        have fa := B1.free
        go_upto_region 11 with (fail)
        obtain ⟨m0, hm0, hm0l⟩ : ∃ m0 : Nat, Hid (m0 = 0) ∧ m0 < 168 := ⟨0, Lib.hid rfl, by omega⟩
        refine abs_world (fun W => Touch b w W ∧ Sp W b (kperm 12 u) (m0 : Int) d true ∧ W.ownsRow g 5 1 (.slice sa sn sc) i (outsV (kend s p d) 0 i) ∧ g ≤ W.heap.size) ⟨k2.trans (Touch.set _ _ _ _), by rw [hm0.out]; exact B1.setAt 0, ownsRow_touch hown2 (Touch.set _ _ _ _) hbg, by simpa [World.setCell] using hgW2⟩ ?_
        clear ca fa k2 B1 hown2 hgW2
        rintro W4 ⟨k, B, hown, hgW⟩
        have hin : ∀ j, j < 25 → in64 (kperm 12 u j) := kperm_in hin0 12
        obtain ⟨q, hq, hq25⟩ : ∃ q, m0 / 8 = q ∧ q < 25 := ⟨_, rfl, by omega⟩
        obtain ⟨r, hr, hr8⟩ : ∃ r, m0 % 8 = r ∧ r < 8 := ⟨_, rfl, by omega⟩
        obtain ⟨z, hz, hz56⟩ : ∃ z, 8 * r = z ∧ z ≤ 56 := ⟨_, rfl, by omega⟩
        have e1 : (m0 : Int).tdiv 8 = (q : Int) := by rw [Int.tdiv_eq_ediv_of_nonneg (by omega)]; omega
        have e1' : (m0 : Int) / 8 = (q : Int) := by omega
        have e2 : (m0 : Int).tmod 8 = (r : Int) := by rw [Int.tmod_eq_emod_of_nonneg (by omega)]; omega
        have e2' : (m0 : Int) % 8 = (r : Int) := by omega
        have e3 : 8 * (r : Int) = (z : Int) := by omega
        have w1 : IntKind.i64.wrap (q : Int) = (q : Int) := IntWalk.i64_in _ (by omega)
        have w2 : IntKind.i64.wrap (z : Int) = (z : Int) := IntWalk.i64_in _ (by omega)
        have z1 : (0 : Int) ≤ (q : Int) := by omega
        have z2 : (q : Int) < 25 := by omega
        have z3 : (0 : Int) ≤ (z : Int) := by omega
        have z4 : (z : Int) ≤ 64 := by omega
        have cl := B.lane (by omega) hq25
        have ca := B.sat
        have HB : Hid (byteAt (kperm 12 u) m0 = IntKind.u8.wrap ((kperm 12 u) q / 2 ^ z)) := Lib.hid (by unfold byteAt; rw [hq, hr, hz, wrap_u8])
        obtain ⟨x0, hx0, hx0a, hx0b⟩ : ∃ x0, (kperm 12 u) q = x0 ∧ 0 ≤ x0 ∧ x0 ≤ 18446744073709551615 := ⟨_, rfl, by have := hin q hq25; unfold in64 at this; omega, by have := hin q hq25; unfold in64 at this; omega⟩
        rw [hx0] at cl HB
        clear hx0 hq hr hz
        refine wp_region_marks_in (fun _ => oneMean 5 #[.int .u8 (IntKind.u8.wrap (x0 / 2 ^ z))]) 20 (by kernel_rfl) (by kernel_rfl) (fun k0 => ?_)
        simp only [List.take_succ_cons, List.take_zero, List.drop_succ_cons, List.drop_zero]
        repeat (first
          | (refine marks_ex rfl rfl (by kernel_rfl) ?_; apply Exists.intro; refine And.intro (fun w' hk => ?_) (And.intro ?_ ?_); (focus (have q0 := hk.cell cl; have q1 := hk.cell ca; clear hk; go_simp; exact rfl)); (focus (exact rfl)); simp only [Act.put, List.setIfInBounds_toArray, List.set_cons_zero, List.set_cons_succ]))
        refine marks_lay 0 rfl rfl (by kernel_rfl) (fun w' hk => ?_) ?_
        · refine ⟨_, _, by go_simp, (Kept.refl w').alloc _, ⟨_, rfl, Blk.new _ _ _⟩⟩
        simp only [Act.put, List.setIfInBounds_toArray, List.set_cons_zero, List.set_cons_succ]
        refine marks_nil ?_
        intro a'' W5 hkW5 hra
        obtain ⟨mb, hmb, rfl⟩ := hra.mark1 57 0 (by kernel_rfl) rfl
        simp only [Act.put, List.setIfInBounds_toArray, List.set_cons_zero, List.set_cons_succ]
        clear hra
        obtain ⟨nb, rfl, Bn⟩ := hmb
        have k5 := k.later hkW5
        have B5 := B.kept hkW5
        have hown5 := ownsRow_kept hown hkW5
        have hg5 : g ≤ W5.heap.size := Nat.le_trans hgW hkW5.size
        clear ca cl hkW5 k B hown
        go_wp2_with (at_builtin; refine wpList_append_at 42 5 info5 Try.underlying42 rfl (by decide) hown5 nb 0 1 1 [.int .u8 (IntKind.u8.wrap (x0 / 2 ^ z))] rfl (by intro u hu; simp at hu; subst hu; rfl) (by intro j u hj; rw [Nat.zero_add]; exact Bn.cell j (by simpa using hj)) (by omega) (by decide) (by decide) hg5 (.tmp 38) (.tmp 57) rfl rfl rfl rfl ?_; intro v' w1 hown6 hgrow hne; have k6 := k5.grown hown5 hgrow (by omega); have B6 := grown_blk B5 hown5 hgrow (by omega); have hg6 : g ≤ w1.heap.size := Nat.le_trans hg5 hgrow.size; clear hown5 hgrow k5 B5 Bn hg5; have ca := B6.sat; have fa := B6.free; have w5 : IntKind.i64.wrap ((m0 : Int) + 1) = (m0 : Int) + 1 := IntWalk.i64_in _ (by omega))
        go_roundw
        case rel => exact ⟨i + 1, by omega, by go_num, k6.trans (Touch.set _ _ _ _), by rw [HV.out.1]; show Sp _ b (kperm 12 u) ((0 + 1 : Nat) : Int) d true; rw [show ((0 + 1 : Nat) : Int) = (m0 : Int) + 1 by rw [hm0.out]; rfl]; exact B6.setAt ((m0 : Int) + 1), by rw [HV.out.2]; show World.ownsRow _ _ _ _ _ _ (outsV (kend s p d) 0 i ++ [.int .u8 (byteAt (kperm 12 u) 0)]); have h9 := HB.out; rw [hm0.out] at h9; rw [h9]; exact ownsRow_touch hown6 (Touch.set _ _ _ _) hbg, by simpa [World.setCell] using hg6⟩
        case measure => simp [intOf]; omega
      · have hm2 : (m : Int) ≠ 168 := by omega
        have hm3 : ((m : Int) == 168) = false := by simp [hm2]
        have HN : Hid (norm u m = u ∧ normA m = m) := Lib.hid ⟨if_neg hm168, if_neg hm168⟩
        have hin := hin0
        go_upto_region 11 with (fail)
        clear ca fa
        obtain ⟨q, hq, hq25⟩ : ∃ q, m / 8 = q ∧ q < 25 := ⟨_, rfl, by omega⟩
        obtain ⟨r, hr, hr8⟩ : ∃ r, m % 8 = r ∧ r < 8 := ⟨_, rfl, by omega⟩
        obtain ⟨z, hz, hz56⟩ : ∃ z, 8 * r = z ∧ z ≤ 56 := ⟨_, rfl, by omega⟩
        have e1 : (m : Int).tdiv 8 = (q : Int) := by rw [Int.tdiv_eq_ediv_of_nonneg (by omega)]; omega
        have e1' : (m : Int) / 8 = (q : Int) := by omega
        have e2 : (m : Int).tmod 8 = (r : Int) := by rw [Int.tmod_eq_emod_of_nonneg (by omega)]; omega
        have e2' : (m : Int) % 8 = (r : Int) := by omega
        have e3 : 8 * (r : Int) = (z : Int) := by omega
        have w1 : IntKind.i64.wrap (q : Int) = (q : Int) := IntWalk.i64_in _ (by omega)
        have w2 : IntKind.i64.wrap (z : Int) = (z : Int) := IntWalk.i64_in _ (by omega)
        have z1 : (0 : Int) ≤ (q : Int) := by omega
        have z2 : (q : Int) < 25 := by omega
        have z3 : (0 : Int) ≤ (z : Int) := by omega
        have z4 : (z : Int) ≤ 64 := by omega
        have cl := B.lane (by omega) hq25
        have ca := B.sat
        have HB : Hid (byteAt u m = IntKind.u8.wrap (u q / 2 ^ z)) := Lib.hid (by unfold byteAt; rw [hq, hr, hz, wrap_u8])
        obtain ⟨x0, hx0, hx0a, hx0b⟩ : ∃ x0, u q = x0 ∧ 0 ≤ x0 ∧ x0 ≤ 18446744073709551615 := ⟨_, rfl, by have := hin q hq25; unfold in64 at this; omega, by have := hin q hq25; unfold in64 at this; omega⟩
        rw [hx0] at cl HB
        clear hx0 hq hr hz
        refine wp_region_marks_in (fun _ => oneMean 5 #[.int .u8 (IntKind.u8.wrap (x0 / 2 ^ z))]) 20 (by kernel_rfl) (by kernel_rfl) (fun k0 => ?_)
        simp only [List.take_succ_cons, List.take_zero, List.drop_succ_cons, List.drop_zero]
        repeat (first
          | (refine marks_ex rfl rfl (by kernel_rfl) ?_; apply Exists.intro; refine And.intro (fun w' hk => ?_) (And.intro ?_ ?_); (focus (have q0 := hk.cell cl; have q1 := hk.cell ca; clear hk; go_simp; exact rfl)); (focus (exact rfl)); simp only [Act.put, List.setIfInBounds_toArray, List.set_cons_zero, List.set_cons_succ]))
        refine marks_lay 0 rfl rfl (by kernel_rfl) (fun w' hk => ?_) ?_
        · refine ⟨_, _, by go_simp, (Kept.refl w').alloc _, ⟨_, rfl, Blk.new _ _ _⟩⟩
        simp only [Act.put, List.setIfInBounds_toArray, List.set_cons_zero, List.set_cons_succ]
        refine marks_nil ?_
        intro a'' W5 hkW5 hra
        obtain ⟨mb, hmb, rfl⟩ := hra.mark1 57 0 (by kernel_rfl) rfl
        simp only [Act.put, List.setIfInBounds_toArray, List.set_cons_zero, List.set_cons_succ]
        clear hra
        obtain ⟨nb, rfl, Bn⟩ := hmb
        have k5 := k.later hkW5
        have B5 := B.kept hkW5
        have hown5 := ownsRow_kept hown hkW5
        have hg5 : g ≤ W5.heap.size := Nat.le_trans hgW hkW5.size
        clear ca cl hkW5 k B hown
        go_wp2_with (at_builtin; refine wpList_append_at 42 5 info5 Try.underlying42 rfl (by decide) hown5 nb 0 1 1 [.int .u8 (IntKind.u8.wrap (x0 / 2 ^ z))] rfl (by intro u hu; simp at hu; subst hu; rfl) (by intro j u hj; rw [Nat.zero_add]; exact Bn.cell j (by simpa using hj)) (by omega) (by decide) (by decide) hg5 (.tmp 38) (.tmp 57) rfl rfl rfl rfl ?_; intro v' w1 hown6 hgrow hne; have k6 := k5.grown hown5 hgrow (by omega); have B6 := grown_blk B5 hown5 hgrow (by omega); have hg6 : g ≤ w1.heap.size := Nat.le_trans hg5 hgrow.size; clear hown5 hgrow k5 B5 Bn hg5; have ca := B6.sat; have fa := B6.free; have w5 : IntKind.i64.wrap ((m : Int) + 1) = (m : Int) + 1 := IntWalk.i64_in _ (by omega))
        go_roundw
        case rel => exact ⟨i + 1, by omega, by go_num, k6.trans (Touch.set _ _ _ _), by rw [HV.out.1, HN.out.1, HN.out.2]; exact B6.setAt _, by rw [HV.out.2, HN.out.1, HN.out.2, HB.out]; exact ownsRow_touch hown6 (Touch.set _ _ _ _) hbg, by simpa [World.setCell] using hg6⟩
        case measure => simp [intOf]; omega
    · have yi : (many : Int) ≤ (i : Int) := by omega
      obtain rfl : i = many := by omega
      go_wp2_with fail
      go_ret
      exact ⟨_, rfl, k, B, ownsRow_base hown hwg⟩
end Go.Proofs.Ytnajihlhcdedgaa

namespace Go.Proofs.Ytnajihlhcdedgaa
open Go.RowKit
set_option linter.unusedVariables false
set_option linter.unusedSimpArgs false
/-- The lanes when n bytes are in, and the end. -/
def hashS (C : Nat → Int) (n : Nat) (d : Int) : Nat → Int := kend (takes C (fun _ => 0) 0 n).1 (takes C (fun _ => 0) 0 n).2 d
/-- A nil slice. -/
theorem SlB.nil (w : World) (N : Nat) (C : Nat → Int) : SlB w none 0 0 N C := ⟨fun j hj => absurd hj (by omega), fun j hj => absurd hj (by omega)⟩
end Go.Proofs.Ytnajihlhcdedgaa

namespace Go.Proofs.Ytnajihlhcdedgaa
open Go.RowKit
set_option linter.unusedVariables false
set_option linter.unusedSimpArgs false
attribute [local simp] blkAt_setCell blkAt_alloc blkAt_drew Obj.put_cells
/-- A slice whose cells lie outside block b reads as the bytes C 0, .. -/
structure SlN (w : World) (b : Nat) (a : Option Addr) (n cap : Nat) (C : Nat → Int) : Prop where
  at' : ∀ j, j < n → ∃ p : Addr, (∀ w', (Instr.indexAt 42 (.slice a n cap) (.int .i64 (j : Int))).run Try.prog w' = .ok (.pointer (some p)) w') ∧ w.cell? p = some (.int .u8 (C j)) ∧ p.block ≠ b
  byte : ∀ j, j < n → 0 ≤ C j ∧ C j ≤ 255
theorem SlN.touch {w w' : World} {a : Option Addr} {n cap b : Nat} {C : Nat → Int} (h : SlN w b a n cap C) (k : Touch b w w') : SlN w' b a n cap C :=
  ⟨fun j hj => let ⟨p, h1, h2, h3⟩ := h.at' j hj; ⟨p, h1, k.cell h2 h3, h3⟩, h.byte⟩
theorem SlN.of_block {w : World} {b g n cap : Nat} {l : List Int} (hl : l.length = n) (hb : ∀ x ∈ l, isByte x) (hc : ∀ j, j < n → w.cell? ⟨g, j, none⟩ = some (.int .u8 (l.getD j 0))) (hne : g ≠ b) : SlN w b (some ⟨g, 0, none⟩) n cap (fun j => l.getD j 0) :=
  ⟨fun j hj => ⟨_, fun w' => run_index_at Try.underlying42 size5 hj w', by rw [add_zero_at]; exact hc j hj, by rw [add_zero_at]; exact hne⟩, fun j hj => by
    rw [List.getD_eq_getElem?_getD, List.getElem?_eq_getElem (by omega)]
    exact hb _ (List.getElem_mem _)⟩
set_option maxRecDepth 100000 in
set_option maxHeartbeats 4000000 in
theorem k_WriteX (w : World) (b : Nat) (s : Nat → Int) (a d : Int) (p : Nat) (hp : p ≤ 168) (sl : Option Addr) (n cap : Nat) (C : Nat → Int) (hn : (n : Int) ≤ 9223372036854775807) (hS : SlN w b sl n cap C) (hB : Sp w b s p d false) :
    Calls Try.prog 65 #[.pointer (some ⟨b, 0, none⟩), .slice sl n cap] w fun e w' => e = .returned (.tuple #[]) ∧ Touch b w w' ∧ Sp w' b (takes C s p n).1 (takes C s p n).2 d false := by
  have c0 := hB.sgive
  go_enter Try.func65, Try.ntmps65
  go_wp2_with fail
  clear c0
  go_loopw [16] (fun t' wr => ∃ i : Nat, i ≤ n ∧ t' = .int .i64 i ∧ Touch b w wr ∧ Sp wr b (takes C s p i).1 (takes C s p i).2 d false) (fun t' _ => n - (intOf t').toNat)
  case atStart => exact ⟨0, Nat.zero_le _, rfl, Touch.refl _ _, hB⟩
  case round =>
    obtain ⟨i, hi, rfl, k, B⟩ := hrel
    have zi : (0 : Int) ≤ (i : Int) := by omega
    rcases Nat.lt_or_ge i n with hlt | hge
    · have yi : (i : Int) < (n : Int) := by omega
      obtain ⟨q, hix, hq, hqN⟩ := (hS.touch k).at' i hlt
      obtain ⟨c0, c1⟩ := hS.byte i hlt
      have hple := takes_le C s hp i
      have HV : Hid (takes C s p (i + 1) = (kflip (norm (takes C s p i).1 (takes C s p i).2) (normA (takes C s p i).2) (C i), normA (takes C s p i).2 + 1)) := Lib.hid rfl
      generalize (takes C s p i).1 = u at *
      generalize (takes C s p i).2 = m at *
      generalize C i = c at *
      have ca := B.sat
      have fa := B.free
      by_cases hm : m = 168
      · subst hm
        go_wp2_with fail
        refine (k_permute _ b 28 139 u _ (by omega) B).mono ?_
        rintro e W1 ⟨rfl, k1, B1⟩
        have k2 := k.trans k1
        clear k k1 ca fa B
        have ca := B1.sat
        have fa := B1.free
        go_wp2_with fail
        refine (k_flip _ b _ 0 d false 0 (by omega) c c0 c1 (B1.setAt 0)).mono ?_
        rintro e W2 ⟨rfl, k3, B2⟩
        have k4 := (k2.trans (Touch.set _ _ _ _)).trans k3
        clear k2 k3 ca fa B1
        have ca := B2.sat
        have fa := B2.free
        go_wp2_with fail
        go_roundw
        case rel => exact ⟨i + 1, by omega, by go_num, k4.trans (Touch.set _ _ _ _), by rw [HV.out]; exact B2.setAt 1⟩
        case measure => simp [intOf]; omega
      · have hm2 : (m : Int) ≠ 168 := by omega
        have hm3 : ((m : Int) == 168) = false := by simp [hm2]
        have HN : Hid (norm u m = u ∧ normA m = m) := Lib.hid ⟨if_neg hm, if_neg hm⟩
        have w1 : IntKind.i64.wrap ((m : Int) + 1) = (m : Int) + 1 := IntWalk.i64_in _ (by omega)
        go_wp2_with fail
        refine (k_flip _ b _ _ d false m (by omega) c c0 c1 B).mono ?_
        rintro e W2 ⟨rfl, k3, B2⟩
        have k4 := k.trans k3
        clear k k3 ca fa B
        have ca := B2.sat
        have fa := B2.free
        go_wp2_with fail
        go_roundw
        case rel => exact ⟨i + 1, by omega, by go_num, k4.trans (Touch.set _ _ _ _), by rw [HV.out, HN.out.1, HN.out.2]; exact B2.setAt _⟩
        case measure => simp [intOf]; omega
    · have yi : (n : Int) ≤ (i : Int) := by omega
      obtain rfl : i = n := by omega
      go_wp2_with fail
      refine bodyPost_end (v := .tuple #[]) (by simp [results, Try.results65, go_sem]) rfl ⟨rfl, k, B⟩
theorem gives_add (s : Nat → Int) (a j : Nat) : ∀ i, gives (gives s a j).1 (gives s a j).2 i = gives s a (j + i)
  | 0 => rfl
  | i + 1 => by
    show (norm (gives (gives s a j).1 (gives s a j).2 i).1 (gives (gives s a j).1 (gives s a j).2 i).2, normA (gives (gives s a j).1 (gives s a j).2 i).2 + 1) = _
    rw [gives_add s a j i]
    rfl
theorem outs_add (s : Nat → Int) (a j i : Nat) : outs (gives s a j).1 (gives s a j).2 i = outs s a (j + i) := by
  unfold outs
  rw [gives_add]
/-- What the sponge of a question gives. -/
def strm (C : Nat → Int) (n i : Nat) : Int := outs (hashS C n 1) 0 i
/-- Sponge kb stands at byte j of what the question (n bytes C) gives. -/
def RealAt (w : World) (kb : Nat) (C : Nat → Int) (n j : Nat) : Prop :=
  (j = 0 ∧ Sp w kb (takes C (fun _ => 0) 0 n).1 (takes C (fun _ => 0) 0 n).2 1 false) ∨ Sp w kb (gives (hashS C n 1) 0 j).1 (gives (hashS C n 1) 0 j).2 1 true
theorem strm_byte (C : Nat → Int) (n i : Nat) : isByte (strm C n i) := by
  unfold strm outs byteAt isByte
  omega
theorem k_ReadAt (w : World) (kb : Nat) (C : Nat → Int) (n j : Nat) (many : Nat) (hm : many ≤ 65536) (h : RealAt w kb C n j) :
    Calls Try.prog 67 #[.pointer (some ⟨kb, 0, none⟩), .int .i64 (many : Int)] w fun e w' => ∃ v, e = .returned v ∧ Touch kb w w' ∧ RealAt w' kb C n (j + many) ∧ w'.ownsRow w.heap.size 5 1 v many (bytesR many fun i => strm C n (j + i)) := by
  rcases h with ⟨rfl, h⟩ | h
  · refine (k_End_le w kb _ 1 _ (takes_le C _ (by omega) n) many hm (by omega) (by omega) h).mono ?_
    rintro e w' ⟨v, rfl, k, B, hown⟩
    refine ⟨v, rfl, k, .inr ?_, ?_⟩
    · rw [Nat.zero_add]
      exact B
    · have e : bytesR many (fun i => strm C n (0 + i)) = outsV (kend (takes C (fun _ => 0) 0 n).1 (takes C (fun _ => 0) 0 n).2 1) 0 many := by
        unfold bytesR outsV
        exact List.map_congr_left fun i _ => by simp only [Nat.zero_add]; rfl
      rw [e]
      exact hown
  · refine (k_Read_le w kb (gives (hashS C n 1) 0 j).1 1 (gives (hashS C n 1) 0 j).2 (gives_le _ (by omega) j) (Lib.hid (gives_in (kend_in _ _ _) 0 j)) many hm h).mono ?_
    rintro e w' ⟨v, rfl, k, B, hown⟩
    refine ⟨v, rfl, k, .inr ?_, ?_⟩
    · rw [gives_add] at B
      exact B
    · have e : bytesR many (fun i => strm C n (j + i)) = outsV (gives (hashS C n 1) 0 j).1 (gives (hashS C n 1) 0 j).2 many := by
        unfold bytesR outsV
        exact List.map_congr_left fun i _ => by simp only [outs_add]; rfl
      rw [e]
      exact hown
/-- A source that hashes. -/
abbrev RealSrc (w : World) (b : Nat) : Prop := Blk w b 143 #[.bool false, .slice none 0 0, .int .i64 0, .map none, .slice none 0 0]
set_option maxRecDepth 100000 in
set_option maxHeartbeats 8000000 in
theorem x_Real (w : World) : Calls Try.prog 70 #[] w fun e w' => ∃ b, e = .returned (.pointer (some ⟨b, 0, none⟩)) ∧ w.heap.size ≤ b ∧ RealSrc w' b ∧ Kept w w' := by
  go_enter Try.func70, Try.ntmps70
  go_wp2_with fail
  go_ret
  exact ⟨_, rfl, Nat.le_refl _, Blk.new _ _ _, (Kept.refl w).alloc _⟩
theorem cell_alloc_bytes (w : World) (s : ByteArray) (cap : Nat) (fz : Nat × Nat) (j : Nat) (hj : j < s.size) : (w.alloc (.cells (bytesRow s cap) 5 fz)).cell? ⟨w.heap.size, j, none⟩ = some (.int .u8 ((tb s).getD j 0)) := by
  have hj' : j < s.data.size := hj
  have h1 : (w.alloc (.cells (bytesRow s cap) 5 fz)).heap[w.heap.size]? = some (.cells (bytesRow s cap) 5 fz) := heap_alloc_new w _
  unfold World.cell?
  rw [h1]
  have hj2 : s.data[j]? = some s.data[j] := Array.getElem?_eq_getElem hj'
  simp [bytesRow, tb, Array.getElem?_append, hj, List.getD_eq_getElem?_getD, hj2]
theorem size77 : (Try.prog.info? 77).map (·.size) = some 16 := by kernel_rfl
/-- A stream that hashes, at byte j. -/
structure RealStr (w : World) (x kb pb : Nat) (Q : ByteArray) (C : Nat → Int) (n j : Nat) (skip : Int) : Prop where
  blk : Blk w x 146 #[.pointer (some ⟨pb, 0, none⟩), .pointer (some ⟨kb, 0, none⟩), .string Q, .int .i64 0, .int .i64 skip]
  at' : RealAt w kb C n j
  ne : x ≠ kb
set_option maxRecDepth 100000 in
set_option maxHeartbeats 8000000 in
theorem x_Stream_real_nil (w : World) (pb : Nat) (hs : RealSrc w pb) (T : ByteArray) (hT : T.size ≤ 255) (U u0 u1 : Int) (hw0 : IntKind.u8.wrap U = u0) (hw1 : IntKind.u8.wrap (U / 256) = u1) (h0 : isByte u0) (h1 : isByte u1) (S : Nat → Int) (hS : Hid (∀ j, j < 16 → isByte (S j))) (n : Nat) (C : Nat → Int) (hn0 : n = 0) :
    Calls Try.prog 71 #[.pointer (some ⟨pb, 0, none⟩), .string T, .int .u16 U, .agg (rowF 16 (fun j => .int .u8 (S j))), .slice none 0 0] w fun e w' => ∃ x kb, e = .returned (.pointer (some ⟨x, 0, none⟩)) ∧ w.heap.size ≤ x ∧ w.heap.size ≤ kb ∧ Kept w w' ∧
      RealStr w' x kb pb (strOf (qL T u0 u1 S C n)) (fun j => (qL T u0 u1 S C n).getD j 0) (19 + T.size + n) 0 0 := by
  have hn : n ≤ 65536 := by omega
  have HCB : Hid (∀ j, j < n → isByte (C j)) := Lib.hid fun j hj => absurd hj (by omega)
  have HQ : Hid (∀ W, Kept w W → Calls Try.prog 129 #[.string T, .int .u16 U, .agg (rowF 16 (fun j => .int .u8 (S j))), .slice none 0 0] W fun e w' => e = .returned (.string (strOf (qL T u0 u1 S C n))) ∧ Kept W w') := Lib.hid fun W hk => by subst hn0; exact x_question_nil W T hT U u0 u1 hw0 hw1 h0 h1 S hS C
  clear hn0
  have hby := qL_byte (n := n) hT h0 h1 hS.out HCB.out
  have hlen := qL_length T u0 u1 S C n
  have htb := tb_strOf hby
  generalize qL T u0 u1 S C n = ql at *
  have hsz : (strOf ql).size = 19 + T.size + n := by rw [← hlen]; simp [strOf, ByteArray.size]
  obtain ⟨Qs, hQs⟩ : ∃ Q, strOf ql = Q := ⟨_, rfl⟩
  rw [hQs] at HQ hsz htb ⊢
  obtain ⟨g8, hg8⟩ : ∃ g, w.heap.size = g := ⟨_, rfl⟩
  have nw8 : w.heap.size ≤ g8 := by omega
  have yT : (T.size : Int) ≤ 255 := by omega
  have yn : (n : Int) ≤ 65536 := by omega
  go_enter Try.func71, Try.ntmps71
  go_upto_region 3 with (fail)
  try simp only [hg8]
  refine abs_world (fun W => Kept w W ∧ Blk W g8 77 (rowF 16 (fun j => .int .u8 (S j)))) ⟨?_, ?_⟩ ?_
  · repeat (first | exact Kept.refl _ | (refine Kept.setCell ?_ (kept_side (by first | assumption | omega)) _) | apply Kept.alloc | apply Kept.drew)
  · simp [Blk, *] <;> omega
  clear hg8
  rintro W1 ⟨k1, B1⟩
  go_wp2_with (refine wpList_load_part 77 (.tmp 8) B1 (Nat.le_refl _) Try.underlying77 size77 rfl rfl rfl ?_)
  refine (HQ.out _ k1).mono ?_
  rintro e W2 ⟨rfl, hk⟩
  have k2 := k1.trans hk
  clear k1 B1 hk
  have hs2 := hs.kept k2
  obtain ⟨x, hx⟩ : ∃ g, W2.heap.size = g := ⟨_, rfl⟩
  have nwx : w.heap.size ≤ x := hx ▸ k2.size
  have nex : pb ≠ x := by have := hs2.lt; omega
  have nex' : x ≠ pb := nex.symm
  go_upto_region 5 with (fail)
  try simp only [hx]
  refine abs_world (fun W => Kept W2 W ∧ Blk W x 146 #[.pointer (some ⟨pb, 0, none⟩), .pointer none, .string Qs, .int .i64 0, .int .i64 0]) ⟨?_, ?_⟩ ?_
  · have nw9 : W2.heap.size ≤ x := by omega
    repeat (first | exact Kept.refl _ | (refine Kept.setCell ?_ (kept_side (by first | assumption | omega)) _) | apply Kept.alloc | apply Kept.drew)
  · simp [Blk, *] <;> omega
  clear hx
  rintro W3 ⟨hk, B3⟩
  have k3 := k2.trans hk
  have hs3 := hs2.kept hk
  clear k2 hk hs2
  have cs := hs3.cell 0 rfl
  go_wp2_with fail
  refine (k_New _ 1 (by omega) (by omega)).mono ?_
  rintro e W4 ⟨kb, rfl, hkb, B4, hk⟩
  have k4 := k3.trans hk
  have Bx := B3.kept hk
  have nek : x ≠ kb := by have := B3.lt; omega
  have nkw : w.heap.size ≤ kb := Nat.le_trans k3.size hkb
  clear k3 hk B3 hkb cs hs3
  have c0 := Bx.cell 0 rfl
  have c1 := Bx.cell 1 rfl
  have c2 := Bx.cell 2 rfl
  have fx := Bx.free
  have nx4 : x ≠ W4.heap.size := by have := Bx.lt; omega
  have hcb := fun w' => run_bytes_of_string (P := Try.prog) w' 9 42 5 Qs Try.underlying9 Try.underlying42 Try.underlying5
  go_wp2_with fail
  refine abs_calls (fun W => Kept w W ∧ Blk W x 146 #[.pointer (some ⟨pb, 0, none⟩), .pointer (some ⟨kb, 0, none⟩), .string Qs, .int .i64 0, .int .i64 0] ∧ Sp W kb (fun _ => 0) 0 1 false ∧ (∀ j, j < 19 + T.size + n → W.cell? ⟨W4.heap.size, j, none⟩ = some (.int .u8 (ql.getD j 0)))) ⟨?_, ?_, ?_, ?_⟩ ?_
  · repeat (first | exact k4 | (refine Kept.setCell ?_ (kept_side (by first | assumption | omega)) _) | apply Kept.alloc | apply Kept.drew)
  · simp [Blk, *] <;> omega
  · exact ((B4.set_other nek _).drew).alloc _
  · intro j hj
    have e : (W4.setCell ⟨x, 1, none⟩ (.pointer (some ⟨kb, 0, none⟩))).drew.heap.size = W4.heap.size := by simp
    rw [← e]
    exact (cell_alloc_bytes _ Qs _ _ j (by omega)).trans (by rw [htb])
  have neq : W4.heap.size ≠ kb := by have := B4.lt; omega
  rintro W5 ⟨k5, Bx5, B5, hcl⟩
  clear k4 Bx B4 c0 c1 c2 fx hcb
  refine (k_WriteX _ kb _ 0 1 0 (by omega) _ _ _ _ (by omega) (SlN.of_block hlen hby hcl neq) B5).mono ?_
  rintro e W6 ⟨rfl, kt, B6⟩
  have k6 := kt.kept k5 nkw
  have Bx6 := (Chg.of_touch (S := fun i => i = kb) kt rfl).blk Bx5 nek
  clear k5 Bx5 B5 kt hcl
  go_wp2_with fail
  go_ret
  exact ⟨x, kb, rfl, nwx, nkw, k6, Bx6, .inl ⟨rfl, B6⟩, nek⟩
/-- What a question is bound to. -/
def Bnd (w : World) (sl : Option Addr) (n cap : Nat) (C : Nat → Int) : Prop := (sl = none ∧ n = 0 ∧ cap = 0) ∨ ∃ ad : Addr, sl = some ad ∧ ∀ j, j < n → w.cell? (ad.add j) = some (.int .u8 (C j))
theorem Bnd.kept {w w' : World} {sl : Option Addr} {n cap : Nat} {C : Nat → Int} (h : Bnd w sl n cap C) (k : Kept w w') : Bnd w' sl n cap C := by
  rcases h with h | ⟨ad, h1, h2⟩
  · exact .inl h
  · exact .inr ⟨ad, h1, fun j hj => k.cell (h2 j hj)⟩
end Go.Proofs.Ytnajihlhcdedgaa

namespace Go.Proofs.Ytnajihlhcdedgaa
open Go.RowKit
set_option linter.unusedVariables false
set_option linter.unusedSimpArgs false
attribute [local simp] blkAt_setCell blkAt_alloc blkAt_drew Obj.put_cells
set_option maxRecDepth 100000 in
set_option maxHeartbeats 8000000 in
theorem x_Next_nil (many : Int) : Pure Try.prog 72 #[.pointer none, .int .i64 many] (.slice none 0 0) := fun w => by
  go_enter Try.func72, Try.ntmps72
  go_wp2_with fail
  go_ret
  exact ⟨rfl, Kept.refl w⟩
set_option maxRecDepth 100000 in
set_option maxHeartbeats 8000000 in
theorem x_Next_neg (x : Nat) (many : Int) (h : many < 0) : Pure Try.prog 72 #[.pointer (some ⟨x, 0, none⟩), .int .i64 many] (.slice none 0 0) := fun w => by
  go_enter Try.func72, Try.ntmps72
  go_wp2_with fail
  go_ret
  exact ⟨rfl, Kept.refl w⟩
set_option maxRecDepth 100000 in
set_option maxHeartbeats 8000000 in
theorem x_Next_big (x : Nat) (many : Int) (h : 65536 < many) : Pure Try.prog 72 #[.pointer (some ⟨x, 0, none⟩), .int .i64 many] (.slice none 0 0) := fun w => by
  have n1 : decide (many < 0) = false := decide_eq_false (by omega)
  go_enter Try.func72, Try.ntmps72
  go_wp2_with fail
  go_ret
  exact ⟨rfl, Kept.refl w⟩
set_option maxRecDepth 100000 in
set_option maxHeartbeats 8000000 in
theorem x_Next_real (w : World) (x kb pb : Nat) (Q : ByteArray) (C : Nat → Int) (n j : Nat) (skip : Int) (h : RealStr w x kb pb Q C n j skip) (many : Nat) (hm : many ≤ 65536) :
    Calls Try.prog 72 #[.pointer (some ⟨x, 0, none⟩), .int .i64 (many : Int)] w fun e w' => ∃ v, e = .returned v ∧ Touch kb w w' ∧ RealStr w' x kb pb Q C n (j + many) skip ∧ w'.ownsRow w.heap.size 5 1 v many (bytesR many fun i => strm C n (j + i)) := by
  have zm : (0 : Int) ≤ (many : Int) := by omega
  have ym : (many : Int) ≤ 65536 := by omega
  have c1 := h.blk.cell 1 rfl
  have HR := Lib.hid (k_ReadAt w kb C n j many hm h.at')
  go_enter Try.func72, Try.ntmps72
  go_wp2_with fail
  refine (HR.out).mono ?_
  rintro e W1 ⟨v, rfl, k, hat, hown⟩
  clear c1
  go_wp2_with fail
  go_ret
  exact ⟨v, rfl, k, ⟨(Chg.of_touch (S := fun i => i = kb) k rfl).blk h.blk h.ne, hat, h.ne⟩, hown⟩
theorem x_Skipped_nil : Pure Try.prog 91 #[.pointer none] (.int .i64 0) := fun w => by
  go_enter Try.func91, Try.ntmps91
  go_wp2_with fail
  go_ret
  exact ⟨rfl, Kept.refl w⟩
set_option maxRecDepth 100000 in
set_option maxHeartbeats 8000000 in
theorem x_Stream_nobody (T : ByteArray) (U : Int) (S : Nat → Int) (sl : Option Addr) (n cap : Nat) : Pure Try.prog 71 #[.pointer none, .string T, .int .u16 U, .agg (rowF 16 (fun j => .int .u8 (S j))), .slice sl n cap] (.pointer none) := fun w => by
  obtain ⟨g8, hg8⟩ : ∃ g, w.heap.size = g := ⟨_, rfl⟩
  have nw8 : w.heap.size ≤ g8 := by omega
  go_enter Try.func71, Try.ntmps71
  go_upto_region 1 with (fail)
  try simp only [hg8]
  refine abs_world (fun W => Kept w W) ?_ ?_
  · repeat (first | exact Kept.refl _ | (refine Kept.setCell ?_ (kept_side (by first | assumption | omega)) _) | apply Kept.alloc | apply Kept.drew)
  rintro W1 k1
  go_wp2_with fail
  go_ret
  exact ⟨rfl, k1⟩
set_option maxRecDepth 100000 in
set_option maxHeartbeats 8000000 in
theorem x_Stream_long (pb : Nat) (T : ByteArray) (hT : (T.size : Int) ≤ 255) (U : Int) (S : Nat → Int) (sl : Option Addr) (n cap : Nat) (hn : (65536 : Int) < (n : Int)) : Pure Try.prog 71 #[.pointer (some ⟨pb, 0, none⟩), .string T, .int .u16 U, .agg (rowF 16 (fun j => .int .u8 (S j))), .slice sl n cap] (.pointer none) := fun w => by
  obtain ⟨g8, hg8⟩ : ∃ g, w.heap.size = g := ⟨_, rfl⟩
  have nw8 : w.heap.size ≤ g8 := by omega
  go_enter Try.func71, Try.ntmps71
  go_upto_region 1 with (fail)
  try simp only [hg8]
  refine abs_world (fun W => Kept w W) ?_ ?_
  · repeat (first | exact Kept.refl _ | (refine Kept.setCell ?_ (kept_side (by first | assumption | omega)) _) | apply Kept.alloc | apply Kept.drew)
  rintro W1 k1
  go_wp2_with fail
  go_ret
  exact ⟨rfl, k1⟩
set_option maxRecDepth 100000 in
set_option maxHeartbeats 8000000 in
theorem x_Asked_nobody : Pure Try.prog 75 #[.pointer none] (.tuple #[.slice none 0 0, .int .i64 0]) := fun w => by
  go_enter Try.func75, Try.ntmps75
  go_wp2_with fail
  go_ret2
  exact ⟨rfl, Kept.refl w⟩
theorem RealAt.lt {w : World} {kb : Nat} {C : Nat → Int} {n j : Nat} (h : RealAt w kb C n j) : kb < w.heap.size := by
  rcases h with ⟨_, h⟩ | h
  · exact h.lt
  · exact h.lt
theorem RealStr.drew {w : World} {x kb pb : Nat} {Q : ByteArray} {C : Nat → Int} {n j : Nat} {skip : Int} (h : RealStr w x kb pb Q C n j skip) : RealStr w.drew x kb pb Q C n j skip := ⟨h.blk, h.at', h.ne⟩
theorem RealAt.chg {S : Nat → Prop} {w w' : World} {kb : Nat} {C : Nat → Int} {n j : Nat} (h : RealAt w kb C n j) (k : Chg S w w') (hn : ¬ S kb) : RealAt w' kb C n j := by
  rcases h with ⟨h0, h⟩ | h
  · exact .inl ⟨h0, k.blk h hn⟩
  · exact .inr (k.blk h hn)
theorem RealStr.chg {S : Nat → Prop} {w w' : World} {x kb pb : Nat} {Q : ByteArray} {C : Nat → Int} {n j : Nat} {skip : Int} (h : RealStr w x kb pb Q C n j skip) (k : Chg S w w') (hx : ¬ S x) (hn : ¬ S kb) : RealStr w' x kb pb Q C n j skip := ⟨k.blk h.blk hx, h.at'.chg k hn, h.ne⟩
theorem Chg.touch {b : Nat} {w w' : World} (h : Chg (fun i => i = b) w w') : Touch b w w' := ⟨h.os, h.tape, h.output, h.size, fun i hi hn => h.block i hi hn⟩
theorem Chg.setRow {S : Nat → Prop} {w w' : World} (h : Chg S w w') {g : Nat} (hg : S g ∨ w.heap.size ≤ g) (cs : Array Value) : Chg S w (w'.setRow g cs) := by
  have k := Touch.setRow g w' cs
  refine ⟨k.os.trans h.os, k.tape.trans h.tape, k.output.trans h.output, Nat.le_trans h.size k.size, fun j hj hn => (k.block j (Nat.lt_of_lt_of_le hj h.size) fun he => ?_).trans (h.block j hj hn)⟩
  subst he
  rcases hg with hb | hb
  · exact hn hb
  · omega
end Go.Proofs.Ytnajihlhcdedgaa

namespace Go.Proofs.Ytnajihlhcdedgaa
open Go.RowKit
set_option linter.unusedVariables false
set_option linter.unusedSimpArgs false
/-- A stream that hashes, k pieces read. -/
def StR (x kb pb : Nat) (Q : ByteArray) (C : Nat → Int) (n L : Nat) (k : Nat) (s : Int) (S : Nat → Prop) (W : World) : Prop :=
  RealStr W x kb pb Q C n (k * L) s ∧ S = (fun j => j = x ∨ j = kb)
theorem strLaw_R {x kb pb : Nat} {Q : ByteArray} {C : Nat → Int} {n L : Nat} (hL : L ≤ 16) (F KM : Nat) : StrLaw F x L (strm C n) KM (StR x kb pb Q C n L) where
  lt := by
    rintro k s S W ⟨h, rfl⟩ i (rfl | rfl)
    · exact h.blk.lt
    · exact h.at'.lt
  stab := by
    rintro k s S W W' T ⟨h, rfl⟩ hk hd _
    exact ⟨h.chg hk (hd x (.inl rfl)) (hd kb (.inr rfl)), rfl⟩
  next := by
    rintro k s S W _ ⟨h, rfl⟩
    refine (x_Next_real W x kb pb Q C n (k * L) s h L (by omega)).mono ?_
    rintro e W' ⟨v, rfl, kt, h', hown⟩
    refine ⟨v, _, rfl, hown, ⟨?_, rfl⟩, (Chg.of_touch (S := fun j => j = x ∨ j = kb) kt (.inr rfl)), fun i hi => .inl hi⟩
    rw [Nat.succ_mul]
    exact h'
  cell := by
    rintro k s S W ⟨h, rfl⟩
    exact h.blk.cell 4 rfl
  free := by
    rintro k s S W ⟨h, rfl⟩
    exact h.blk.free 4
  own := by
    rintro k s S W ⟨h, rfl⟩
    exact .inl rfl
  skip := by
    rintro k s S W ⟨h, rfl⟩
    refine ⟨⟨?_, h.at'.chg (chg_set W x 4 _) (fun e => h.ne e.symm), h.ne⟩, rfl⟩
    show blkAt _ _ = _
    rw [blkAt_setCell, if_pos rfl, h.blk.eq]
    rfl
theorem find_one (q : ByteArray) : Instr.findNow .string (.string q) (#[].push { key := .string q, val := .slice none 0 0, born := 0 } : Array MapEntry).toList 0 = some (some (0, .slice none 0 0)) := by
  simp [Instr.findNow, Instr.sameNow, (MapKept.bytes_beq q q).2 rfl]
end Go.Proofs.Ytnajihlhcdedgaa

namespace Go.Proofs.Ytnajihlhcdedgaa
open Go.RowKit
set_option linter.unusedVariables false
set_option linter.unusedSimpArgs false
attribute [local simp] blkAt_setCell blkAt_alloc blkAt_drew Obj.put_cells
/-- The question of a tag of one letter, for use 1, no seed, bound to nothing. -/
def qOf (c : UInt8) : ByteArray := strOf (qL ⟨#[c]⟩ 1 0 (fun _ => 0) (fun _ => 0) 0)
theorem HQ_of (c : UInt8) (w : World) : Hid (∀ W, Kept w W → Calls Try.prog 129 #[.string ⟨#[c]⟩, .int .u16 1, .agg (rowF 16 (fun j => .int .u8 ((fun _ => (0 : Int)) j))), .slice none 0 0] W fun e w' => e = .returned (.string (qOf c)) ∧ Kept W w') :=
  Lib.hid fun W _ => x_question_nil W ⟨#[c]⟩ (by show 1 ≤ 255; omega) 1 1 0 (by decide) (by decide) ⟨by omega, by omega⟩ ⟨by omega, by omega⟩ _ (Lib.hid fun j _ => ⟨by omega, by omega⟩) _
theorem qab : (qOf 98 == qOf 97) = false := by kernel_rfl
theorem qaa (q : ByteArray) : (q == q) = true := (MapKept.bytes_beq q q).2 rfl
def aD (j : Nat) : Int := (j : Int) + 1
def aA (j : Nat) : Int := if j < 2 then drawn aD 3 j else drawn aD 3 (3 + (j - 2))
theorem str1 : strR 2 (fun j => aA (0 + j)) = ⟨#[1, 2]⟩ := by rfl
theorem str2 : strR 1 (fun j => (fun j => drawn aD 3 (2 + j)) (0 + j)) = ⟨#[3]⟩ := by rfl
theorem str3 : strR 3 (fun j => aA (0 + j)) = ⟨#[1, 2, 0]⟩ := by rfl
theorem aA_byte (j : Nat) : 0 ≤ aA j ∧ aA j ≤ 255 := by unfold aA drawn aD; split <;> split <;> omega
theorem aB_byte (j : Nat) : 0 ≤ drawn aD 3 (2 + j) ∧ drawn aD 3 (2 + j) ≤ 255 := by unfold drawn aD; split <;> omega
theorem zero16 : (rowF 16 fun j => Value.int .u8 ((fun _ => (0 : Int)) j)) = #[.int .u8 0, .int .u8 0, .int .u8 0, .int .u8 0, .int .u8 0, .int .u8 0, .int .u8 0, .int .u8 0, .int .u8 0, .int .u8 0, .int .u8 0, .int .u8 0, .int .u8 0, .int .u8 0, .int .u8 0, .int .u8 0] := rfl
theorem es_one (q : ByteArray) (u : Value) : esAt (#[].push { key := .string q, val := .slice none 0 0, born := 0 }) 0 q u = #[{ key := .string q, val := u, born := 0 }] := rfl
theorem es_two (q p : ByteArray) (u v : Value) : esAt (#[{ key := .string q, val := u, born := 0 }].push { key := .string p, val := .slice none 0 0, born := 1 }) 1 p v = #[{ key := .string q, val := u, born := 0 }, { key := .string p, val := v, born := 1 }] := rfl
set_option maxRecDepth 100000 in
set_option maxHeartbeats 4000000 in
theorem x_Awake : Pure Try.prog 69 #[] (.bool true) := fun w => by
  go_enter Try.func69, Try.ntmps69
  go_wp2_with fail
  refine abs_calls (fun W => Kept w W ∧ Blk W w.heap.size 5 [Value.int .u8 1, .int .u8 2, .int .u8 3].toArray) ⟨(Kept.refl w).alloc _, Blk.new _ _ _⟩ ?_
  rintro W0 ⟨k0, B0⟩
  refine (x_Oracle W0 _ 3 3 aD (by omega) (.inr ⟨⟨w.heap.size, 0, none⟩, rfl, fun j hj => ?_⟩) (fun j hj => by unfold aD; omega)).mono ?_
  · rw [add_zero_at]
    rcases (show j = 0 ∨ j = 1 ∨ j = 2 by omega) with rfl | rfl | rfl
    · exact B0.cell 0 rfl
    · exact B0.cell 1 rfl
    · exact B0.cell 2 rfl
  rintro e W1 ⟨b, M, da, dc, rfl, hM, o1, hk⟩
  have k1 := k0.trans hk
  have lMb := o1.lt
  have nwM : w.heap.size ≤ M := Nat.le_trans k0.size hM
  clear k0 hk B0 hM
  -- the first question
  have HS1 := x_Stream_new W1 b M da 3 dc aD 0 #[] 0 _ o1 ⟨#[97]⟩ (by show 1 ≤ 255; omega) 1 (fun _ => 0) (qOf 97) (HQ_of 97 W1) rfl 0 [] (by omega) (World.ownsRow_nil _ _ _ _)
  rw [zero16] at HS1
  go_wp2_with fail
  refine HS1.mono ?_
  rintro e W2 ⟨x1, av1, rfl, hx1, X1, o2, avo2, avx1, c2⟩
  have lb1 := o1.blk.lt
  have k2 : Kept w W2 := (Chg.trans (S := fun i => i = b ∨ i = M) (Chg.of_kept k1) c2 (fun i hi h => by
    rcases h with h | h | h
    · exact .inl h
    · exact .inr h
    · cases h)).kept (fun i hi h => by omega)
  have lx1 := X1.lt
  clear HS1 o1 k1
  have HN1 := x_Next_o W2 x1 b M (qOf 97) 0 0 X1 da 3 dc aD 0 _ _ _ o2 0 (.slice none 0 0) (by simp [Instr.findNow, Instr.sameNow, qaa]) W2.heap.size 0 2 aA (World.ownsRow_nil _ _ _ _) (by omega) (Nat.le_refl _) (by omega) (by omega) (by omega) (by omega) (by omega) (by omega)
    (Lib.hid fun j _ hj => by unfold aA; rw [if_pos (by omega)]; congr 1; omega) (by omega) (by omega) (by intro h; cases h)
  clear c2
  go_wp2_with fail
  refine HN1.mono ?_
  rintro e W3 ⟨v1, u1, rfl, ov1, _, o3, ou1, c3, _, hvu⟩
  rw [es_one] at o3
  have avo3 := c3.own avo2 (fun g hg h => by
    have h1 := own_lt avo2 hg
    have h2 := avx1 g hg
    rcases h with h | h | h | h
    · omega
    · omega
    · exact h2 h
    · cases h)
  have lav : ∀ g, av1.ownBlock = some g → b < g ∧ g < W2.heap.size := fun g hg => by have := own_lt avo2 hg; omega
  have lu1 : ∀ g, u1.ownBlock = some g → W2.heap.size ≤ g ∧ g < W3.heap.size := fun g hg => own_lt ou1 hg
  have lv1 : ∀ g, v1.ownBlock = some g → W2.heap.size ≤ g ∧ g < W3.heap.size := fun g hg => own_lt ov1 hg
  have k3 : Kept w W3 := (Chg.trans (S := fun i => i = b ∨ i = M ∨ i = x1) (Chg.of_kept k2) c3 (fun i hi h => by
    rcases h with h | h | h | h
    · exact .inl h
    · exact .inr (.inl h)
    · exact .inr (.inr h)
    · cases h)).kept (fun i hi h => by have := k2.size; omega)
  have lb3 := o3.blk.lt
  have sz3 := c3.size
  clear HN1 o2 k2 avo2 c3 X1
  -- the second question
  have HS2 := x_Stream_new W3 b M da 3 dc aD _ _ _ _ o3 ⟨#[98]⟩ (by show 1 ≤ 255; omega) 1 (fun _ => 0) (qOf 98) (HQ_of 98 W3) (by simp [Instr.findNow, Instr.sameNow, qab]) 1 _ (by omega) avo3
  rw [zero16] at HS2
  go_wp2_with fail
  refine HS2.mono ?_
  rintro e W4 ⟨x2, av2, rfl, hx2, X2, o4, avo4, avx2, c4⟩
  have ou4 := c4.own ou1 (fun g hg h => by
    have h1 := lu1 g hg
    rcases h with h | h | h
    · omega
    · omega
    · have := lav g h; omega)
  have ov4 := c4.own ov1 (fun g hg h => by
    have h1 := lv1 g hg
    rcases h with h | h | h
    · omega
    · omega
    · have := lav g h; omega)
  have k4 : Kept w W4 := (Chg.trans (S := fun i => i = b ∨ i = M ∨ av1.ownBlock = some i) (Chg.of_kept k3) c4 (fun i hi h => h)).kept (fun i hi h => by
    rcases h with h | h | h
    · omega
    · omega
    · have := lav i h; omega)
  have sz4 := c4.size
  clear HS2 o3 k3 c4 ou1 ov1
  have HN2 := x_Next_o W4 x2 b M (qOf 98) 0 0 X2 da 3 dc aD _ _ _ _ o4 1 (.slice none 0 0) (by simp [Instr.findNow, Instr.sameNow, qab, qaa]) W4.heap.size 0 1 (fun j => drawn aD 3 (2 + j)) (World.ownsRow_nil _ _ _ _) (by omega) (Nat.le_refl _) (by omega) (by omega) (by omega) (by omega) (by omega) (by omega)
    (Lib.hid fun j _ hj => by show drawn aD 3 (2 + j) = _; congr 1) (by omega) (by omega) (by intro h; cases h)
  go_wp2_with fail
  refine HN2.mono ?_
  rintro e W5 ⟨v2, u2, rfl, ov2, _, o5, _, c5, _, _⟩
  rw [es_two] at o5
  have ou5 := c5.own ou4 (fun g hg h => by
    have h1 := lu1 g hg
    rcases h with h | h | h | h
    · omega
    · omega
    · omega
    · cases h)
  have ov5 := c5.own ov4 (fun g hg h => by
    have h1 := lv1 g hg
    rcases h with h | h | h | h
    · omega
    · omega
    · omega
    · cases h)
  have k5 : Kept w W5 := (Chg.trans (S := fun i => i = b ∨ i = M ∨ i = x2) (Chg.of_kept k4) c5 (fun i hi h => by
    rcases h with h | h | h | h
    · exact .inl h
    · exact .inr (.inl h)
    · exact .inr (.inr h)
    · cases h)).kept (fun i hi h => by have := k4.size; omega)
  have sz5 := c5.size
  have lv2 : ∀ g, v2.ownBlock = some g → W4.heap.size ≤ g ∧ g < W5.heap.size := fun g hg => own_lt ov2 hg
  clear HN2 o4 k4 c5 ou4 ov4 X2
  -- the first question again
  have HS3 := x_Stream_old W5 b M da 3 dc aD _ _ _ _ o5 ⟨#[97]⟩ (by show 1 ≤ 255; omega) 1 (fun _ => 0) (qOf 97) (HQ_of 97 W5) u1 0 (by simp [Instr.findNow, Instr.sameNow, qaa])
  rw [zero16] at HS3
  go_wp2_with fail
  refine HS3.mono ?_
  rintro e W6 ⟨x3, rfl, hx3, X3, hk⟩
  have k6 := k5.trans hk
  have o6 := o5.kept hk
  have ou6 := ownsRow_kept ou5 hk
  have ov6 := ownsRow_kept ov5 hk
  have ow6 := ownsRow_kept ov2 hk
  have sz6 := hk.size
  clear HS3 k5 o5 ou5 ov5 ov2 hk
  have HN3 := x_Next_o W6 x3 b M (qOf 97) 0 0 X3 da 3 dc aD _ _ _ _ o6 0 u1 (by simp [Instr.findNow, Instr.sameNow, qaa]) W2.heap.size 2 3 aA ou6 (by omega) (by omega) (by omega) (by omega) (by omega) (by omega) (by omega) (by omega)
    (Lib.hid fun j h2 hj => by unfold aA; rw [if_neg (by omega)]) (by omega) (by omega) (fun h => by have := lu1 _ h; omega)
  go_wp2_with fail
  refine HN3.mono ?_
  rintro e W7 ⟨v3, u3, rfl, ov7, _, o7, _, c7, _, _⟩
  have oa := c7.own ov6 (fun g hg h => by
    have h1 := lv1 g hg
    rcases h with h | h | h | h
    · omega
    · omega
    · omega
    · have := hvu g g hg h; omega)
  have ob := c7.own ow6 (fun g hg h => by
    have h1 := lv2 g hg
    rcases h with h | h | h | h
    · omega
    · omega
    · omega
    · have := lu1 g h; omega)
  have k7 : Kept w W7 := (Chg.trans (S := fun i => i = b ∨ i = M ∨ i = x3 ∨ u1.ownBlock = some i) (Chg.of_kept k6) c7 (fun i hi h => h)).kept (fun i hi h => by
    rcases h with h | h | h | h
    · omega
    · omega
    · have := k6.size; omega
    · have := lu1 i h; omega)
  have h1 := conv_R (reads_of_own oa) (fun j _ => aA_byte _)
  have h2 := conv_R (reads_of_own ob) (fun j _ => aB_byte _)
  have h3 := conv_R (reads_of_own ov7) (fun j _ => aA_byte _)
  rw [str1] at h1
  rw [str2] at h2
  rw [str3] at h3
  clear HN3 o6 k6 c7 ou6 ov6 ow6 X3 oa ob ov7
  go_wp2_with fail
  go_ret
  exact ⟨rfl, k7⟩
end Go.Proofs.Ytnajihlhcdedgaa

namespace Go.Proofs.Ytnajihlhcdedgaa
open Go.RowKit
set_option linter.unusedVariables false
set_option linter.unusedSimpArgs false
attribute [local simp] blkAt_setCell blkAt_alloc blkAt_drew Obj.put_cells
section
variable {D : Nat → Int} {L : Nat} {f : Int} {k m : Nat}
/-- k elements, then m pieces that are none. -/
theorem ok_then (h1 : ∀ j, j < k → tk D L j < rP f) : ∀ j, j ≤ k → (okL D L f j).length = j ∧ mis D L f j = 0
  | 0, _ => ⟨rfl, rfl⟩
  | j + 1, hj => by
    have ih := ok_then h1 j (by omega)
    have e : okL D L f (j + 1) = okL D L f j ++ [tk D L j] := if_pos (h1 j (by omega))
    exact ⟨by rw [e, List.length_append, ih.1]; rfl, if_pos (h1 j (by omega))⟩
end
section
variable {f : Int} {L : Nat} (k m nd : Nat)
end
/-- Oracle, then Stream of a question: the state. -/
theorem oracle_stream (W1 : World) (b M : Nat) (da : Option Addr) (nd dc : Nat) (D : Nat → Int) (o1 : Orc W1 b M da nd dc D 0 #[] 0 (.slice none 0 0)) (c : UInt8) :
    Calls Try.prog 71 #[.pointer (some ⟨b, 0, none⟩), .string ⟨#[c]⟩, .int .u16 1, .agg #[.int .u8 0, .int .u8 0, .int .u8 0, .int .u8 0, .int .u8 0, .int .u8 0, .int .u8 0, .int .u8 0, .int .u8 0, .int .u8 0, .int .u8 0, .int .u8 0, .int .u8 0, .int .u8 0, .int .u8 0, .int .u8 0], .slice none 0 0] W1 fun e W2 =>
      ∃ x av, e = .returned (.pointer (some ⟨x, 0, none⟩)) ∧ W1.heap.size ≤ x ∧ x < W2.heap.size ∧ OStr W2 x b (qOf c) 0 0 ∧ Orc W2 b M da nd dc D 0 (#[].push { key := .string (qOf c), val := .slice none 0 0, born := 0 }) 1 av ∧ Chg (fun i => i = b ∨ i = M) W1 W2 := by
  have HS1 := x_Stream_new W1 b M da nd dc D 0 #[] 0 _ o1 ⟨#[c]⟩ (by show 1 ≤ 255; omega) 1 (fun _ => 0) (qOf c) (HQ_of c W1) rfl 0 [] (by omega) (World.ownsRow_nil _ _ _ _)
  rw [zero16] at HS1
  refine HS1.mono ?_
  rintro e W2 ⟨x1, av1, rfl, hx1, X1, o2, _, _, c2⟩
  exact ⟨x1, av1, rfl, hx1, X1.lt, X1, o2, c2.mono fun i _ h => by
    rcases h with h | h | h
    · exact .inl h
    · exact .inr h
    · cases h⟩
end Go.Proofs.Ytnajihlhcdedgaa

namespace Go.Proofs.Ytnajihlhcdedgaa
open Go.ChangeShapes Go.WideShapes Go.ChangeAt Go.RowKit
set_option linter.unusedVariables false
set_option linter.unusedSimpArgs false
attribute [local simp] blkAt_setCell blkAt_alloc blkAt_drew Obj.put_cells
/-- A slice of bytes that came in: nil, or with its cells. -/
def DrawsAt (w : World) (a : Option Addr) (n cap : Nat) (C : Nat → Int) : Prop :=
  (a = none ∧ n = 0 ∧ cap = 0) ∨ ∃ ad : Addr, a = some ad ∧ ∀ j, j < n → w.cell? (ad.add j) = some (.int .u8 (C j))
theorem DrawsAt.kept {w w' : World} {a : Option Addr} {n cap : Nat} {C : Nat → Int} (h : DrawsAt w a n cap C) (k : Kept w w') : DrawsAt w' a n cap C := by
  rcases h with h | ⟨ad, h1, h2⟩
  · exact .inl h
  · exact .inr ⟨ad, h1, fun j hj => k.cell (h2 j hj)⟩
theorem DrawsAt.slB {w : World} {a : Option Addr} {n cap : Nat} {C : Nat → Int} (h : DrawsAt w a n cap C) (hC : ∀ j, j < n → 0 ≤ C j ∧ C j ≤ 255) : SlB w a n cap w.heap.size C := by
  refine ⟨fun j hj => ?_, hC⟩
  rcases h with ⟨_, h, _⟩ | ⟨ad, rfl, h2⟩
  · omega
  · exact ⟨_, fun w' => run_index_at Try.underlying42 size5 hj w', h2 j hj, block_lt_of_cell (h2 j hj)⟩
section
variable {H : Type} {enc : TypeId × Value → H} {W : World} {base : Nat} {spare : Nat → Bool} {held : Bool} {v : Value} {d : DataW H} {p : List MemPlace}
set_option maxRecDepth 100000 in
theorem open_bytesO {r : Reach} {b : Nat} (hv : Value.okWide Try.prog W r b 42 v) (h : DataW.Trod enc Try.prog W base spare held 42 v d p) : ∃ (a : Option Addr) (n cap : Nat) (C : Nat → Int), v = .slice a n cap ∧ ((n : Int) ≤ 9223372036854775807 ∧ (∀ j, j < n → 0 ≤ C j ∧ C j ≤ 255) ∧ DrawsAt W a n cap C) := by
  obtain ⟨a0, n0, c0, rfl⟩ : ∃ a n cap, v = .slice a n cap := okWide_slice Try.underlying42 hv
  obtain ⟨fuel, hf⟩ := h
  rcases open_ints Try.underlying42 Try.underlying5 (by kernel_rfl) hf with ⟨h1, _⟩ | ⟨a, len, cap, zs, h1, _, hlc, hcm, hzl, _, hcell, hwf⟩
  · simp only [Value.cells, List.cons.injEq, and_true, Value.slice.injEq] at h1
    obtain ⟨rfl, rfl, rfl⟩ := h1
    exact ⟨none, 0, 0, fun _ => 0, rfl, by omega, fun j hj => absurd hj (Nat.not_lt_zero _), .inl ⟨rfl, rfl, rfl⟩⟩
  · simp only [Value.cells, List.cons.injEq, and_true, Value.slice.injEq] at h1
    obtain ⟨rfl, rfl, rfl⟩ := h1
    have hl : n0 ≤ zs.length := by rw [hzl]; split <;> omega
    refine ⟨some a, n0, c0, fun j => zs.getD j 0, rfl, by unfold maxLen at hcm; omega, fun j hj => ?_, .inr ⟨a, rfl, fun j hj => hcell j (by omega)⟩⟩
    have hj' : j < zs.length := by omega
    have := hwf zs[j] (List.getElem_mem hj')
    show 0 ≤ zs.getD j 0 ∧ zs.getD j 0 ≤ 255
    rw [List.getD_eq_getElem?_getD, List.getElem?_eq_getElem hj']
    simp [Lit.wf, IntKind.min, IntKind.max, IntKind.signed, IntKind.bits] at this
    simp only [Option.getD_some]
    omega
end
section
variable {D : Nat → Int} {L nd : Nat} {f : Int}
end
/-- The reference's oracle between two readings: p bytes read. -/
structure RefO (w0 WV W : World) (b gl lc : Nat) (da : Option Addr) (nd dc : Nat) (C : Nat → Int) (B0 p : Nat) (u : Value) : Prop where
  blk : Blk W b 105 #[.slice da nd dc, .int .i64 (p : Int), .slice (some ⟨gl, 0, none⟩) 1 lc]
  cell : W.cell? ⟨gl, 1, none⟩ = some u
  free : W.frozen? ⟨gl, 1, none⟩ = false
  own : W.ownsRow B0 5 1 u p (bytesR p (drawn C nd))
  base : B0 ≤ W.heap.size
  kept : Kept WV W
  hb : WV.heap.size ≤ b
  hgb : b < gl
  hgB : gl < B0
theorem RefO.chg {w0 WV W W' : World} {b gl lc : Nat} {da : Option Addr} {nd dc : Nat} {C : Nat → Int} {B0 p : Nat} {u : Value} {T : Nat → Prop} (h : RefO w0 WV W b gl lc da nd dc C B0 p u) (k : Chg T W W') (h1 : ∀ i, u.ownBlock = some i → ¬ T i) (h2 : ∀ i, T i → B0 ≤ i) : RefO w0 WV W' b gl lc da nd dc C B0 p u where
  blk := k.blk h.blk (fun hb => by have := h2 _ hb; have := h.hgb; have := h.hgB; omega)
  cell := k.cell h.cell (fun hb => by have h9 : B0 ≤ gl := h2 _ hb; have := h.hgB; omega)
  free := (k.frozen (block_lt_of_cell h.cell) (fun hb => by have h9 : B0 ≤ gl := h2 _ hb; have := h.hgB; omega)).trans h.free
  own := k.own h.own h1
  base := Nat.le_trans h.base k.size
  kept := ((Chg.of_kept (S := T) h.kept).trans k fun _ _ h => h).kept (fun i hi ht => by have := h2 _ ht; have := h.hgB; have := h.hgb; have := h.hb; omega)
  hb := h.hb
  hgb := h.hgb
  hgB := h.hgB
end Go.Proofs.Ytnajihlhcdedgaa

namespace Go.Proofs.Ytnajihlhcdedgaa
open Go.RowKit
set_option linter.unusedVariables false
set_option linter.unusedSimpArgs false
def nrot (a n : Nat) : Nat := a * 2 ^ n % 18446744073709551616 + a / 2 ^ (64 - n)
/-- The number is reckoned first. -/
def force {α : Type} (n : Nat) (f : Nat → α) : α := Nat.rec (f 0) (fun m _ => f (Nat.succ m)) n
theorem force_eq {α : Type} (n : Nat) (f : Nat → α) : force n f = f n := by cases n <;> rfl
/-- 25 lanes. -/
structure St where
  a0 : Nat
  a1 : Nat
  a2 : Nat
  a3 : Nat
  a4 : Nat
  a5 : Nat
  a6 : Nat
  a7 : Nat
  a8 : Nat
  a9 : Nat
  a10 : Nat
  a11 : Nat
  a12 : Nat
  a13 : Nat
  a14 : Nat
  a15 : Nat
  a16 : Nat
  a17 : Nat
  a18 : Nat
  a19 : Nat
  a20 : Nat
  a21 : Nat
  a22 : Nat
  a23 : Nat
  a24 : Nat
def St.list (s : St) : List Nat := [s.a0, s.a1, s.a2, s.a3, s.a4, s.a5, s.a6, s.a7, s.a8, s.a9, s.a10, s.a11, s.a12, s.a13, s.a14, s.a15, s.a16, s.a17, s.a18, s.a19, s.a20, s.a21, s.a22, s.a23, s.a24]
def St.get (s : St) (i : Nat) : Nat := s.list.getD i 0
def ncol (a b c d e : Nat) : Nat := a ^^^ b ^^^ c ^^^ d ^^^ e
def nround (rc : Nat) (s : St) : St := match s with
  | St.mk a0 a1 a2 a3 a4 a5 a6 a7 a8 a9 a10 a11 a12 a13 a14 a15 a16 a17 a18 a19 a20 a21 a22 a23 a24 =>
  force (ncol a0 a5 a10 a15 a20) fun c0 =>
  force (ncol a1 a6 a11 a16 a21) fun c1 =>
  force (ncol a2 a7 a12 a17 a22) fun c2 =>
  force (ncol a3 a8 a13 a18 a23) fun c3 =>
  force (ncol a4 a9 a14 a19 a24) fun c4 =>
  force (c4 ^^^ nrot c1 1) fun d0 =>
  force (c0 ^^^ nrot c2 1) fun d1 =>
  force (c1 ^^^ nrot c3 1) fun d2 =>
  force (c2 ^^^ nrot c4 1) fun d3 =>
  force (c3 ^^^ nrot c0 1) fun d4 =>
  force (nrot (a0 ^^^ d0) 0) fun v0 =>
  force (nrot (a6 ^^^ d1) 44) fun v1 =>
  force (nrot (a12 ^^^ d2) 43) fun v2 =>
  force (nrot (a18 ^^^ d3) 21) fun v3 =>
  force (nrot (a24 ^^^ d4) 14) fun v4 =>
  force (nrot (a3 ^^^ d3) 28) fun v5 =>
  force (nrot (a9 ^^^ d4) 20) fun v6 =>
  force (nrot (a10 ^^^ d0) 3) fun v7 =>
  force (nrot (a16 ^^^ d1) 45) fun v8 =>
  force (nrot (a22 ^^^ d2) 61) fun v9 =>
  force (nrot (a1 ^^^ d1) 1) fun v10 =>
  force (nrot (a7 ^^^ d2) 6) fun v11 =>
  force (nrot (a13 ^^^ d3) 25) fun v12 =>
  force (nrot (a19 ^^^ d4) 8) fun v13 =>
  force (nrot (a20 ^^^ d0) 18) fun v14 =>
  force (nrot (a4 ^^^ d4) 27) fun v15 =>
  force (nrot (a5 ^^^ d0) 36) fun v16 =>
  force (nrot (a11 ^^^ d1) 10) fun v17 =>
  force (nrot (a17 ^^^ d2) 15) fun v18 =>
  force (nrot (a23 ^^^ d3) 56) fun v19 =>
  force (nrot (a2 ^^^ d2) 62) fun v20 =>
  force (nrot (a8 ^^^ d3) 55) fun v21 =>
  force (nrot (a14 ^^^ d4) 39) fun v22 =>
  force (nrot (a15 ^^^ d0) 41) fun v23 =>
  force (nrot (a21 ^^^ d1) 2) fun v24 =>
  force ((v0 ^^^ ((18446744073709551615 ^^^ v1) &&& v2)) ^^^ rc) fun o0 =>
  force (v1 ^^^ ((18446744073709551615 ^^^ v2) &&& v3)) fun o1 =>
  force (v2 ^^^ ((18446744073709551615 ^^^ v3) &&& v4)) fun o2 =>
  force (v3 ^^^ ((18446744073709551615 ^^^ v4) &&& v0)) fun o3 =>
  force (v4 ^^^ ((18446744073709551615 ^^^ v0) &&& v1)) fun o4 =>
  force (v5 ^^^ ((18446744073709551615 ^^^ v6) &&& v7)) fun o5 =>
  force (v6 ^^^ ((18446744073709551615 ^^^ v7) &&& v8)) fun o6 =>
  force (v7 ^^^ ((18446744073709551615 ^^^ v8) &&& v9)) fun o7 =>
  force (v8 ^^^ ((18446744073709551615 ^^^ v9) &&& v5)) fun o8 =>
  force (v9 ^^^ ((18446744073709551615 ^^^ v5) &&& v6)) fun o9 =>
  force (v10 ^^^ ((18446744073709551615 ^^^ v11) &&& v12)) fun o10 =>
  force (v11 ^^^ ((18446744073709551615 ^^^ v12) &&& v13)) fun o11 =>
  force (v12 ^^^ ((18446744073709551615 ^^^ v13) &&& v14)) fun o12 =>
  force (v13 ^^^ ((18446744073709551615 ^^^ v14) &&& v10)) fun o13 =>
  force (v14 ^^^ ((18446744073709551615 ^^^ v10) &&& v11)) fun o14 =>
  force (v15 ^^^ ((18446744073709551615 ^^^ v16) &&& v17)) fun o15 =>
  force (v16 ^^^ ((18446744073709551615 ^^^ v17) &&& v18)) fun o16 =>
  force (v17 ^^^ ((18446744073709551615 ^^^ v18) &&& v19)) fun o17 =>
  force (v18 ^^^ ((18446744073709551615 ^^^ v19) &&& v15)) fun o18 =>
  force (v19 ^^^ ((18446744073709551615 ^^^ v15) &&& v16)) fun o19 =>
  force (v20 ^^^ ((18446744073709551615 ^^^ v21) &&& v22)) fun o20 =>
  force (v21 ^^^ ((18446744073709551615 ^^^ v22) &&& v23)) fun o21 =>
  force (v22 ^^^ ((18446744073709551615 ^^^ v23) &&& v24)) fun o22 =>
  force (v23 ^^^ ((18446744073709551615 ^^^ v24) &&& v20)) fun o23 =>
  force (v24 ^^^ ((18446744073709551615 ^^^ v20) &&& v21)) fun o24 =>
  St.mk o0 o1 o2 o3 o4 o5 o6 o7 o8 o9 o10 o11 o12 o13 o14 o15 o16 o17 o18 o19 o20 o21 o22 o23 o24
def nperm (s : St) : St := nround 9223372039002292232 (nround 2147483649 (nround 9223372036854808704 (nround 9223372039002292353 (nround 9223372039002259466 (nround 32778 (nround 9223372036854775936 (nround 9223372036854808578 (nround 9223372036854808579 (nround 9223372036854808713 (nround 9223372036854775947 (nround 2147516555 (s))))))))))))
/-- A lane as a number. -/
def R (x : Int) (a : Nat) : Prop := x = (a : Int) ∧ a < 18446744073709551616
theorem R_in {x : Int} {a : Nat} (h : R x a) : in64 x := by obtain ⟨rfl, h⟩ := h; unfold in64; omega
theorem ofInt_nat {a : Nat} (h : a < 18446744073709551616) : BitVec.ofInt 64 (a : Int) = BitVec.ofNat 64 a := by
  apply BitVec.eq_of_toNat_eq
  simp
theorem R_xor {x y : Int} {a b : Nat} (h : R x a) (k : R y b) : R (bits .xor .u64 x y) (a ^^^ b) := by
  obtain ⟨rfl, h⟩ := h
  obtain ⟨rfl, k⟩ := k
  have e : a ^^^ b < 2 ^ 64 := Nat.xor_lt_two_pow (by omega) (by omega)
  refine ⟨?_, by omega⟩
  rw [xr_bv, ofInt_nat h, ofInt_nat k, BitVec.toNat_xor, BitVec.toNat_ofNat, BitVec.toNat_ofNat, Nat.mod_eq_of_lt (by omega), Nat.mod_eq_of_lt (by omega)]
theorem R_and {x y : Int} {a b : Nat} (h : R x a) (k : R y b) : R (bits .and .u64 x y) (a &&& b) := by
  obtain ⟨rfl, h⟩ := h
  obtain ⟨rfl, k⟩ := k
  have e : a &&& b ≤ a := Nat.and_le_left
  refine ⟨?_, by omega⟩
  rw [and_bv, ofInt_nat h, ofInt_nat k, BitVec.toNat_and, BitVec.toNat_ofNat, BitVec.toNat_ofNat, Nat.mod_eq_of_lt (by omega), Nat.mod_eq_of_lt (by omega)]
theorem R_rot {x : Int} {a : Nat} (h : R x a) {n : Nat} (hn : n < 64) : R (rotL x n) (nrot a n) := by
  have hi := rotL_in (R_in h) (k := n) (by omega)
  obtain ⟨rfl, h⟩ := h
  have e : rotL (a : Int) n = (nrot a n : Int) := by
    unfold rotL nrot
    rw [Int.natCast_add, Int.natCast_emod, Int.natCast_mul, Int.natCast_ediv, Int.natCast_pow, Int.natCast_pow]
    rfl
  rw [e] at hi
  unfold in64 at hi
  exact ⟨e, by omega⟩
theorem R_all : R 18446744073709551615 18446744073709551615 := ⟨rfl, by decide⟩
theorem R_col0 {s : Nat → Int} {a0 : Nat} {a5 : Nat} {a10 : Nat} {a15 : Nat} {a20 : Nat} (h0 : R (s 0) a0) (h5 : R (s 5) a5) (h10 : R (s 10) a10) (h15 : R (s 15) a15) (h20 : R (s 20) a20) : R (sumTo s 25 0) (ncol a0 a5 a10 a15 a20) := by
  have hz := xr_zero (R_in h0)
  have e : sumTo s 25 0 = bits .xor .u64 (bits .xor .u64 (bits .xor .u64 (bits .xor .u64 (s 0) (s 5)) (s 10)) (s 15)) (s 20) := by simp [sumTo, hz]
  rw [e]
  exact R_xor (R_xor (R_xor (R_xor h0 h5) h10) h15) h20
theorem R_col1 {s : Nat → Int} {a1 : Nat} {a6 : Nat} {a11 : Nat} {a16 : Nat} {a21 : Nat} (h1 : R (s 1) a1) (h6 : R (s 6) a6) (h11 : R (s 11) a11) (h16 : R (s 16) a16) (h21 : R (s 21) a21) : R (sumTo s 25 1) (ncol a1 a6 a11 a16 a21) := by
  have hz := xr_zero (R_in h1)
  have e : sumTo s 25 1 = bits .xor .u64 (bits .xor .u64 (bits .xor .u64 (bits .xor .u64 (s 1) (s 6)) (s 11)) (s 16)) (s 21) := by simp [sumTo, hz]
  rw [e]
  exact R_xor (R_xor (R_xor (R_xor h1 h6) h11) h16) h21
theorem R_col2 {s : Nat → Int} {a2 : Nat} {a7 : Nat} {a12 : Nat} {a17 : Nat} {a22 : Nat} (h2 : R (s 2) a2) (h7 : R (s 7) a7) (h12 : R (s 12) a12) (h17 : R (s 17) a17) (h22 : R (s 22) a22) : R (sumTo s 25 2) (ncol a2 a7 a12 a17 a22) := by
  have hz := xr_zero (R_in h2)
  have e : sumTo s 25 2 = bits .xor .u64 (bits .xor .u64 (bits .xor .u64 (bits .xor .u64 (s 2) (s 7)) (s 12)) (s 17)) (s 22) := by simp [sumTo, hz]
  rw [e]
  exact R_xor (R_xor (R_xor (R_xor h2 h7) h12) h17) h22
theorem R_col3 {s : Nat → Int} {a3 : Nat} {a8 : Nat} {a13 : Nat} {a18 : Nat} {a23 : Nat} (h3 : R (s 3) a3) (h8 : R (s 8) a8) (h13 : R (s 13) a13) (h18 : R (s 18) a18) (h23 : R (s 23) a23) : R (sumTo s 25 3) (ncol a3 a8 a13 a18 a23) := by
  have hz := xr_zero (R_in h3)
  have e : sumTo s 25 3 = bits .xor .u64 (bits .xor .u64 (bits .xor .u64 (bits .xor .u64 (s 3) (s 8)) (s 13)) (s 18)) (s 23) := by simp [sumTo, hz]
  rw [e]
  exact R_xor (R_xor (R_xor (R_xor h3 h8) h13) h18) h23
theorem R_col4 {s : Nat → Int} {a4 : Nat} {a9 : Nat} {a14 : Nat} {a19 : Nat} {a24 : Nat} (h4 : R (s 4) a4) (h9 : R (s 9) a9) (h14 : R (s 14) a14) (h19 : R (s 19) a19) (h24 : R (s 24) a24) : R (sumTo s 25 4) (ncol a4 a9 a14 a19 a24) := by
  have hz := xr_zero (R_in h4)
  have e : sumTo s 25 4 = bits .xor .u64 (bits .xor .u64 (bits .xor .u64 (bits .xor .u64 (s 4) (s 9)) (s 14)) (s 19)) (s 24) := by simp [sumTo, hz]
  rw [e]
  exact R_xor (R_xor (R_xor (R_xor h4 h9) h14) h19) h24
theorem mv0 (s : Nat → Int) : kmove (kmix s) 0 = rotL (bits .xor .u64 (s 0) (bits .xor .u64 (sumTo s 25 4) (rotL (sumTo s 25 1) 1))) 0 := rfl
theorem mv1 (s : Nat → Int) : kmove (kmix s) 1 = rotL (bits .xor .u64 (s 6) (bits .xor .u64 (sumTo s 25 0) (rotL (sumTo s 25 2) 1))) 44 := rfl
theorem mv2 (s : Nat → Int) : kmove (kmix s) 2 = rotL (bits .xor .u64 (s 12) (bits .xor .u64 (sumTo s 25 1) (rotL (sumTo s 25 3) 1))) 43 := rfl
theorem mv3 (s : Nat → Int) : kmove (kmix s) 3 = rotL (bits .xor .u64 (s 18) (bits .xor .u64 (sumTo s 25 2) (rotL (sumTo s 25 4) 1))) 21 := rfl
theorem mv4 (s : Nat → Int) : kmove (kmix s) 4 = rotL (bits .xor .u64 (s 24) (bits .xor .u64 (sumTo s 25 3) (rotL (sumTo s 25 0) 1))) 14 := rfl
theorem mv5 (s : Nat → Int) : kmove (kmix s) 5 = rotL (bits .xor .u64 (s 3) (bits .xor .u64 (sumTo s 25 2) (rotL (sumTo s 25 4) 1))) 28 := rfl
theorem mv6 (s : Nat → Int) : kmove (kmix s) 6 = rotL (bits .xor .u64 (s 9) (bits .xor .u64 (sumTo s 25 3) (rotL (sumTo s 25 0) 1))) 20 := rfl
theorem mv7 (s : Nat → Int) : kmove (kmix s) 7 = rotL (bits .xor .u64 (s 10) (bits .xor .u64 (sumTo s 25 4) (rotL (sumTo s 25 1) 1))) 3 := rfl
theorem mv8 (s : Nat → Int) : kmove (kmix s) 8 = rotL (bits .xor .u64 (s 16) (bits .xor .u64 (sumTo s 25 0) (rotL (sumTo s 25 2) 1))) 45 := rfl
theorem mv9 (s : Nat → Int) : kmove (kmix s) 9 = rotL (bits .xor .u64 (s 22) (bits .xor .u64 (sumTo s 25 1) (rotL (sumTo s 25 3) 1))) 61 := rfl
theorem mv10 (s : Nat → Int) : kmove (kmix s) 10 = rotL (bits .xor .u64 (s 1) (bits .xor .u64 (sumTo s 25 0) (rotL (sumTo s 25 2) 1))) 1 := rfl
theorem mv11 (s : Nat → Int) : kmove (kmix s) 11 = rotL (bits .xor .u64 (s 7) (bits .xor .u64 (sumTo s 25 1) (rotL (sumTo s 25 3) 1))) 6 := rfl
theorem mv12 (s : Nat → Int) : kmove (kmix s) 12 = rotL (bits .xor .u64 (s 13) (bits .xor .u64 (sumTo s 25 2) (rotL (sumTo s 25 4) 1))) 25 := rfl
theorem mv13 (s : Nat → Int) : kmove (kmix s) 13 = rotL (bits .xor .u64 (s 19) (bits .xor .u64 (sumTo s 25 3) (rotL (sumTo s 25 0) 1))) 8 := rfl
theorem mv14 (s : Nat → Int) : kmove (kmix s) 14 = rotL (bits .xor .u64 (s 20) (bits .xor .u64 (sumTo s 25 4) (rotL (sumTo s 25 1) 1))) 18 := rfl
theorem mv15 (s : Nat → Int) : kmove (kmix s) 15 = rotL (bits .xor .u64 (s 4) (bits .xor .u64 (sumTo s 25 3) (rotL (sumTo s 25 0) 1))) 27 := rfl
theorem mv16 (s : Nat → Int) : kmove (kmix s) 16 = rotL (bits .xor .u64 (s 5) (bits .xor .u64 (sumTo s 25 4) (rotL (sumTo s 25 1) 1))) 36 := rfl
theorem mv17 (s : Nat → Int) : kmove (kmix s) 17 = rotL (bits .xor .u64 (s 11) (bits .xor .u64 (sumTo s 25 0) (rotL (sumTo s 25 2) 1))) 10 := rfl
theorem mv18 (s : Nat → Int) : kmove (kmix s) 18 = rotL (bits .xor .u64 (s 17) (bits .xor .u64 (sumTo s 25 1) (rotL (sumTo s 25 3) 1))) 15 := rfl
theorem mv19 (s : Nat → Int) : kmove (kmix s) 19 = rotL (bits .xor .u64 (s 23) (bits .xor .u64 (sumTo s 25 2) (rotL (sumTo s 25 4) 1))) 56 := rfl
theorem mv20 (s : Nat → Int) : kmove (kmix s) 20 = rotL (bits .xor .u64 (s 2) (bits .xor .u64 (sumTo s 25 1) (rotL (sumTo s 25 3) 1))) 62 := rfl
theorem mv21 (s : Nat → Int) : kmove (kmix s) 21 = rotL (bits .xor .u64 (s 8) (bits .xor .u64 (sumTo s 25 2) (rotL (sumTo s 25 4) 1))) 55 := rfl
theorem mv22 (s : Nat → Int) : kmove (kmix s) 22 = rotL (bits .xor .u64 (s 14) (bits .xor .u64 (sumTo s 25 3) (rotL (sumTo s 25 0) 1))) 39 := rfl
theorem mv23 (s : Nat → Int) : kmove (kmix s) 23 = rotL (bits .xor .u64 (s 15) (bits .xor .u64 (sumTo s 25 4) (rotL (sumTo s 25 1) 1))) 41 := rfl
theorem mv24 (s : Nat → Int) : kmove (kmix s) 24 = rotL (bits .xor .u64 (s 21) (bits .xor .u64 (sumTo s 25 0) (rotL (sumTo s 25 2) 1))) 2 := rfl
theorem kb0 (v : Nat → Int) : kbend v 0 = bits .xor .u64 (v 0) (bits .and .u64 (bits .xor .u64 18446744073709551615 (v 1)) (v 2)) := by unfold kbend; simp only [Nat.reduceDiv, Nat.reduceMul, Nat.reduceAdd, Nat.reduceMod]
theorem kr0 (s : Nat → Int) (k : Nat) : kround k s 0 = bits .xor .u64 (kbend (kmove (kmix s)) 0) (conN k) := if_pos rfl
theorem kb1 (v : Nat → Int) : kbend v 1 = bits .xor .u64 (v 1) (bits .and .u64 (bits .xor .u64 18446744073709551615 (v 2)) (v 3)) := by unfold kbend; simp only [Nat.reduceDiv, Nat.reduceMul, Nat.reduceAdd, Nat.reduceMod]
theorem kr1 (s : Nat → Int) (k : Nat) : kround k s 1 = kbend (kmove (kmix s)) 1 := if_neg (by decide)
theorem kb2 (v : Nat → Int) : kbend v 2 = bits .xor .u64 (v 2) (bits .and .u64 (bits .xor .u64 18446744073709551615 (v 3)) (v 4)) := by unfold kbend; simp only [Nat.reduceDiv, Nat.reduceMul, Nat.reduceAdd, Nat.reduceMod]
theorem kr2 (s : Nat → Int) (k : Nat) : kround k s 2 = kbend (kmove (kmix s)) 2 := if_neg (by decide)
theorem kb3 (v : Nat → Int) : kbend v 3 = bits .xor .u64 (v 3) (bits .and .u64 (bits .xor .u64 18446744073709551615 (v 4)) (v 0)) := by unfold kbend; simp only [Nat.reduceDiv, Nat.reduceMul, Nat.reduceAdd, Nat.reduceMod]
theorem kr3 (s : Nat → Int) (k : Nat) : kround k s 3 = kbend (kmove (kmix s)) 3 := if_neg (by decide)
theorem kb4 (v : Nat → Int) : kbend v 4 = bits .xor .u64 (v 4) (bits .and .u64 (bits .xor .u64 18446744073709551615 (v 0)) (v 1)) := by unfold kbend; simp only [Nat.reduceDiv, Nat.reduceMul, Nat.reduceAdd, Nat.reduceMod]
theorem kr4 (s : Nat → Int) (k : Nat) : kround k s 4 = kbend (kmove (kmix s)) 4 := if_neg (by decide)
theorem kb5 (v : Nat → Int) : kbend v 5 = bits .xor .u64 (v 5) (bits .and .u64 (bits .xor .u64 18446744073709551615 (v 6)) (v 7)) := by unfold kbend; simp only [Nat.reduceDiv, Nat.reduceMul, Nat.reduceAdd, Nat.reduceMod]
theorem kr5 (s : Nat → Int) (k : Nat) : kround k s 5 = kbend (kmove (kmix s)) 5 := if_neg (by decide)
theorem kb6 (v : Nat → Int) : kbend v 6 = bits .xor .u64 (v 6) (bits .and .u64 (bits .xor .u64 18446744073709551615 (v 7)) (v 8)) := by unfold kbend; simp only [Nat.reduceDiv, Nat.reduceMul, Nat.reduceAdd, Nat.reduceMod]
theorem kr6 (s : Nat → Int) (k : Nat) : kround k s 6 = kbend (kmove (kmix s)) 6 := if_neg (by decide)
theorem kb7 (v : Nat → Int) : kbend v 7 = bits .xor .u64 (v 7) (bits .and .u64 (bits .xor .u64 18446744073709551615 (v 8)) (v 9)) := by unfold kbend; simp only [Nat.reduceDiv, Nat.reduceMul, Nat.reduceAdd, Nat.reduceMod]
theorem kr7 (s : Nat → Int) (k : Nat) : kround k s 7 = kbend (kmove (kmix s)) 7 := if_neg (by decide)
theorem kb8 (v : Nat → Int) : kbend v 8 = bits .xor .u64 (v 8) (bits .and .u64 (bits .xor .u64 18446744073709551615 (v 9)) (v 5)) := by unfold kbend; simp only [Nat.reduceDiv, Nat.reduceMul, Nat.reduceAdd, Nat.reduceMod]
theorem kr8 (s : Nat → Int) (k : Nat) : kround k s 8 = kbend (kmove (kmix s)) 8 := if_neg (by decide)
theorem kb9 (v : Nat → Int) : kbend v 9 = bits .xor .u64 (v 9) (bits .and .u64 (bits .xor .u64 18446744073709551615 (v 5)) (v 6)) := by unfold kbend; simp only [Nat.reduceDiv, Nat.reduceMul, Nat.reduceAdd, Nat.reduceMod]
theorem kr9 (s : Nat → Int) (k : Nat) : kround k s 9 = kbend (kmove (kmix s)) 9 := if_neg (by decide)
theorem kb10 (v : Nat → Int) : kbend v 10 = bits .xor .u64 (v 10) (bits .and .u64 (bits .xor .u64 18446744073709551615 (v 11)) (v 12)) := by unfold kbend; simp only [Nat.reduceDiv, Nat.reduceMul, Nat.reduceAdd, Nat.reduceMod]
theorem kr10 (s : Nat → Int) (k : Nat) : kround k s 10 = kbend (kmove (kmix s)) 10 := if_neg (by decide)
theorem kb11 (v : Nat → Int) : kbend v 11 = bits .xor .u64 (v 11) (bits .and .u64 (bits .xor .u64 18446744073709551615 (v 12)) (v 13)) := by unfold kbend; simp only [Nat.reduceDiv, Nat.reduceMul, Nat.reduceAdd, Nat.reduceMod]
theorem kr11 (s : Nat → Int) (k : Nat) : kround k s 11 = kbend (kmove (kmix s)) 11 := if_neg (by decide)
theorem kb12 (v : Nat → Int) : kbend v 12 = bits .xor .u64 (v 12) (bits .and .u64 (bits .xor .u64 18446744073709551615 (v 13)) (v 14)) := by unfold kbend; simp only [Nat.reduceDiv, Nat.reduceMul, Nat.reduceAdd, Nat.reduceMod]
theorem kr12 (s : Nat → Int) (k : Nat) : kround k s 12 = kbend (kmove (kmix s)) 12 := if_neg (by decide)
theorem kb13 (v : Nat → Int) : kbend v 13 = bits .xor .u64 (v 13) (bits .and .u64 (bits .xor .u64 18446744073709551615 (v 14)) (v 10)) := by unfold kbend; simp only [Nat.reduceDiv, Nat.reduceMul, Nat.reduceAdd, Nat.reduceMod]
theorem kr13 (s : Nat → Int) (k : Nat) : kround k s 13 = kbend (kmove (kmix s)) 13 := if_neg (by decide)
theorem kb14 (v : Nat → Int) : kbend v 14 = bits .xor .u64 (v 14) (bits .and .u64 (bits .xor .u64 18446744073709551615 (v 10)) (v 11)) := by unfold kbend; simp only [Nat.reduceDiv, Nat.reduceMul, Nat.reduceAdd, Nat.reduceMod]
theorem kr14 (s : Nat → Int) (k : Nat) : kround k s 14 = kbend (kmove (kmix s)) 14 := if_neg (by decide)
theorem kb15 (v : Nat → Int) : kbend v 15 = bits .xor .u64 (v 15) (bits .and .u64 (bits .xor .u64 18446744073709551615 (v 16)) (v 17)) := by unfold kbend; simp only [Nat.reduceDiv, Nat.reduceMul, Nat.reduceAdd, Nat.reduceMod]
theorem kr15 (s : Nat → Int) (k : Nat) : kround k s 15 = kbend (kmove (kmix s)) 15 := if_neg (by decide)
theorem kb16 (v : Nat → Int) : kbend v 16 = bits .xor .u64 (v 16) (bits .and .u64 (bits .xor .u64 18446744073709551615 (v 17)) (v 18)) := by unfold kbend; simp only [Nat.reduceDiv, Nat.reduceMul, Nat.reduceAdd, Nat.reduceMod]
theorem kr16 (s : Nat → Int) (k : Nat) : kround k s 16 = kbend (kmove (kmix s)) 16 := if_neg (by decide)
theorem kb17 (v : Nat → Int) : kbend v 17 = bits .xor .u64 (v 17) (bits .and .u64 (bits .xor .u64 18446744073709551615 (v 18)) (v 19)) := by unfold kbend; simp only [Nat.reduceDiv, Nat.reduceMul, Nat.reduceAdd, Nat.reduceMod]
theorem kr17 (s : Nat → Int) (k : Nat) : kround k s 17 = kbend (kmove (kmix s)) 17 := if_neg (by decide)
theorem kb18 (v : Nat → Int) : kbend v 18 = bits .xor .u64 (v 18) (bits .and .u64 (bits .xor .u64 18446744073709551615 (v 19)) (v 15)) := by unfold kbend; simp only [Nat.reduceDiv, Nat.reduceMul, Nat.reduceAdd, Nat.reduceMod]
theorem kr18 (s : Nat → Int) (k : Nat) : kround k s 18 = kbend (kmove (kmix s)) 18 := if_neg (by decide)
theorem kb19 (v : Nat → Int) : kbend v 19 = bits .xor .u64 (v 19) (bits .and .u64 (bits .xor .u64 18446744073709551615 (v 15)) (v 16)) := by unfold kbend; simp only [Nat.reduceDiv, Nat.reduceMul, Nat.reduceAdd, Nat.reduceMod]
theorem kr19 (s : Nat → Int) (k : Nat) : kround k s 19 = kbend (kmove (kmix s)) 19 := if_neg (by decide)
theorem kb20 (v : Nat → Int) : kbend v 20 = bits .xor .u64 (v 20) (bits .and .u64 (bits .xor .u64 18446744073709551615 (v 21)) (v 22)) := by unfold kbend; simp only [Nat.reduceDiv, Nat.reduceMul, Nat.reduceAdd, Nat.reduceMod]
theorem kr20 (s : Nat → Int) (k : Nat) : kround k s 20 = kbend (kmove (kmix s)) 20 := if_neg (by decide)
theorem kb21 (v : Nat → Int) : kbend v 21 = bits .xor .u64 (v 21) (bits .and .u64 (bits .xor .u64 18446744073709551615 (v 22)) (v 23)) := by unfold kbend; simp only [Nat.reduceDiv, Nat.reduceMul, Nat.reduceAdd, Nat.reduceMod]
theorem kr21 (s : Nat → Int) (k : Nat) : kround k s 21 = kbend (kmove (kmix s)) 21 := if_neg (by decide)
theorem kb22 (v : Nat → Int) : kbend v 22 = bits .xor .u64 (v 22) (bits .and .u64 (bits .xor .u64 18446744073709551615 (v 23)) (v 24)) := by unfold kbend; simp only [Nat.reduceDiv, Nat.reduceMul, Nat.reduceAdd, Nat.reduceMod]
theorem kr22 (s : Nat → Int) (k : Nat) : kround k s 22 = kbend (kmove (kmix s)) 22 := if_neg (by decide)
theorem kb23 (v : Nat → Int) : kbend v 23 = bits .xor .u64 (v 23) (bits .and .u64 (bits .xor .u64 18446744073709551615 (v 24)) (v 20)) := by unfold kbend; simp only [Nat.reduceDiv, Nat.reduceMul, Nat.reduceAdd, Nat.reduceMod]
theorem kr23 (s : Nat → Int) (k : Nat) : kround k s 23 = kbend (kmove (kmix s)) 23 := if_neg (by decide)
theorem kb24 (v : Nat → Int) : kbend v 24 = bits .xor .u64 (v 24) (bits .and .u64 (bits .xor .u64 18446744073709551615 (v 20)) (v 21)) := by unfold kbend; simp only [Nat.reduceDiv, Nat.reduceMul, Nat.reduceAdd, Nat.reduceMod]
theorem kr24 (s : Nat → Int) (k : Nat) : kround k s 24 = kbend (kmove (kmix s)) 24 := if_neg (by decide)
/-- Lane by lane. -/
def Rs (s : Nat → Int) (S : St) : Prop := ∀ i, i < 25 → R (s i) (S.get i)
theorem Rs_force {s : Nat → Int} {n : Nat} {f : Nat → St} {x : Int} (hx : R x n) (h : ∀ y, R x y → Rs s (f y)) : Rs s (force n f) := by
  rw [force_eq]
  exact h n hx
set_option maxRecDepth 100000 in
set_option maxHeartbeats 4000000 in
theorem Rs_round {s : Nat → Int} {S : St} (h : Rs s S) (k : Nat) (rc : Nat) (hrc : R (conN k) rc) : Rs (kround k s) (nround rc S) := by
  obtain ⟨a0, a1, a2, a3, a4, a5, a6, a7, a8, a9, a10, a11, a12, a13, a14, a15, a16, a17, a18, a19, a20, a21, a22, a23, a24⟩ := S
  unfold nround
  have h0 : R (s 0) a0 := h 0 (by omega)
  have h1 : R (s 1) a1 := h 1 (by omega)
  have h2 : R (s 2) a2 := h 2 (by omega)
  have h3 : R (s 3) a3 := h 3 (by omega)
  have h4 : R (s 4) a4 := h 4 (by omega)
  have h5 : R (s 5) a5 := h 5 (by omega)
  have h6 : R (s 6) a6 := h 6 (by omega)
  have h7 : R (s 7) a7 := h 7 (by omega)
  have h8 : R (s 8) a8 := h 8 (by omega)
  have h9 : R (s 9) a9 := h 9 (by omega)
  have h10 : R (s 10) a10 := h 10 (by omega)
  have h11 : R (s 11) a11 := h 11 (by omega)
  have h12 : R (s 12) a12 := h 12 (by omega)
  have h13 : R (s 13) a13 := h 13 (by omega)
  have h14 : R (s 14) a14 := h 14 (by omega)
  have h15 : R (s 15) a15 := h 15 (by omega)
  have h16 : R (s 16) a16 := h 16 (by omega)
  have h17 : R (s 17) a17 := h 17 (by omega)
  have h18 : R (s 18) a18 := h 18 (by omega)
  have h19 : R (s 19) a19 := h 19 (by omega)
  have h20 : R (s 20) a20 := h 20 (by omega)
  have h21 : R (s 21) a21 := h 21 (by omega)
  have h22 : R (s 22) a22 := h 22 (by omega)
  have h23 : R (s 23) a23 := h 23 (by omega)
  have h24 : R (s 24) a24 := h 24 (by omega)
  clear h
  refine Rs_force (R_col0 (s := s) h0 h5 h10 h15 h20) fun y0 c0 => ?_
  refine Rs_force (R_col1 (s := s) h1 h6 h11 h16 h21) fun y1 c1 => ?_
  refine Rs_force (R_col2 (s := s) h2 h7 h12 h17 h22) fun y2 c2 => ?_
  refine Rs_force (R_col3 (s := s) h3 h8 h13 h18 h23) fun y3 c3 => ?_
  refine Rs_force (R_col4 (s := s) h4 h9 h14 h19 h24) fun y4 c4 => ?_
  refine Rs_force (R_xor c4 (R_rot c1 (n := 1) (by omega))) fun z0 d0 => ?_
  refine Rs_force (R_xor c0 (R_rot c2 (n := 1) (by omega))) fun z1 d1 => ?_
  refine Rs_force (R_xor c1 (R_rot c3 (n := 1) (by omega))) fun z2 d2 => ?_
  refine Rs_force (R_xor c2 (R_rot c4 (n := 1) (by omega))) fun z3 d3 => ?_
  refine Rs_force (R_xor c3 (R_rot c0 (n := 1) (by omega))) fun z4 d4 => ?_
  clear c0 c1 c2 c3 c4
  refine Rs_force (x := kmove (kmix s) 0) (by rw [mv0]; exact R_rot (R_xor h0 d0) (n := 0) (by omega)) fun u0 v0 => ?_
  refine Rs_force (x := kmove (kmix s) 1) (by rw [mv1]; exact R_rot (R_xor h6 d1) (n := 44) (by omega)) fun u1 v1 => ?_
  refine Rs_force (x := kmove (kmix s) 2) (by rw [mv2]; exact R_rot (R_xor h12 d2) (n := 43) (by omega)) fun u2 v2 => ?_
  refine Rs_force (x := kmove (kmix s) 3) (by rw [mv3]; exact R_rot (R_xor h18 d3) (n := 21) (by omega)) fun u3 v3 => ?_
  refine Rs_force (x := kmove (kmix s) 4) (by rw [mv4]; exact R_rot (R_xor h24 d4) (n := 14) (by omega)) fun u4 v4 => ?_
  refine Rs_force (x := kmove (kmix s) 5) (by rw [mv5]; exact R_rot (R_xor h3 d3) (n := 28) (by omega)) fun u5 v5 => ?_
  refine Rs_force (x := kmove (kmix s) 6) (by rw [mv6]; exact R_rot (R_xor h9 d4) (n := 20) (by omega)) fun u6 v6 => ?_
  refine Rs_force (x := kmove (kmix s) 7) (by rw [mv7]; exact R_rot (R_xor h10 d0) (n := 3) (by omega)) fun u7 v7 => ?_
  refine Rs_force (x := kmove (kmix s) 8) (by rw [mv8]; exact R_rot (R_xor h16 d1) (n := 45) (by omega)) fun u8 v8 => ?_
  refine Rs_force (x := kmove (kmix s) 9) (by rw [mv9]; exact R_rot (R_xor h22 d2) (n := 61) (by omega)) fun u9 v9 => ?_
  refine Rs_force (x := kmove (kmix s) 10) (by rw [mv10]; exact R_rot (R_xor h1 d1) (n := 1) (by omega)) fun u10 v10 => ?_
  refine Rs_force (x := kmove (kmix s) 11) (by rw [mv11]; exact R_rot (R_xor h7 d2) (n := 6) (by omega)) fun u11 v11 => ?_
  refine Rs_force (x := kmove (kmix s) 12) (by rw [mv12]; exact R_rot (R_xor h13 d3) (n := 25) (by omega)) fun u12 v12 => ?_
  refine Rs_force (x := kmove (kmix s) 13) (by rw [mv13]; exact R_rot (R_xor h19 d4) (n := 8) (by omega)) fun u13 v13 => ?_
  refine Rs_force (x := kmove (kmix s) 14) (by rw [mv14]; exact R_rot (R_xor h20 d0) (n := 18) (by omega)) fun u14 v14 => ?_
  refine Rs_force (x := kmove (kmix s) 15) (by rw [mv15]; exact R_rot (R_xor h4 d4) (n := 27) (by omega)) fun u15 v15 => ?_
  refine Rs_force (x := kmove (kmix s) 16) (by rw [mv16]; exact R_rot (R_xor h5 d0) (n := 36) (by omega)) fun u16 v16 => ?_
  refine Rs_force (x := kmove (kmix s) 17) (by rw [mv17]; exact R_rot (R_xor h11 d1) (n := 10) (by omega)) fun u17 v17 => ?_
  refine Rs_force (x := kmove (kmix s) 18) (by rw [mv18]; exact R_rot (R_xor h17 d2) (n := 15) (by omega)) fun u18 v18 => ?_
  refine Rs_force (x := kmove (kmix s) 19) (by rw [mv19]; exact R_rot (R_xor h23 d3) (n := 56) (by omega)) fun u19 v19 => ?_
  refine Rs_force (x := kmove (kmix s) 20) (by rw [mv20]; exact R_rot (R_xor h2 d2) (n := 62) (by omega)) fun u20 v20 => ?_
  refine Rs_force (x := kmove (kmix s) 21) (by rw [mv21]; exact R_rot (R_xor h8 d3) (n := 55) (by omega)) fun u21 v21 => ?_
  refine Rs_force (x := kmove (kmix s) 22) (by rw [mv22]; exact R_rot (R_xor h14 d4) (n := 39) (by omega)) fun u22 v22 => ?_
  refine Rs_force (x := kmove (kmix s) 23) (by rw [mv23]; exact R_rot (R_xor h15 d0) (n := 41) (by omega)) fun u23 v23 => ?_
  refine Rs_force (x := kmove (kmix s) 24) (by rw [mv24]; exact R_rot (R_xor h21 d1) (n := 2) (by omega)) fun u24 v24 => ?_
  clear h0 h1 h2 h3 h4 h5 h6 h7 h8 h9 h10 h11 h12 h13 h14 h15 h16 h17 h18 h19 h20 h21 h22 h23 h24 d0 d1 d2 d3 d4
  refine Rs_force (x := kround k s 0) (by rw [kr0, kb0]; exact R_xor (R_xor v0 (R_and (R_xor R_all v1) v2)) hrc) fun o0 w0 => ?_
  refine Rs_force (x := kround k s 1) (by rw [kr1, kb1]; exact R_xor v1 (R_and (R_xor R_all v2) v3)) fun o1 w1 => ?_
  refine Rs_force (x := kround k s 2) (by rw [kr2, kb2]; exact R_xor v2 (R_and (R_xor R_all v3) v4)) fun o2 w2 => ?_
  refine Rs_force (x := kround k s 3) (by rw [kr3, kb3]; exact R_xor v3 (R_and (R_xor R_all v4) v0)) fun o3 w3 => ?_
  refine Rs_force (x := kround k s 4) (by rw [kr4, kb4]; exact R_xor v4 (R_and (R_xor R_all v0) v1)) fun o4 w4 => ?_
  refine Rs_force (x := kround k s 5) (by rw [kr5, kb5]; exact R_xor v5 (R_and (R_xor R_all v6) v7)) fun o5 w5 => ?_
  refine Rs_force (x := kround k s 6) (by rw [kr6, kb6]; exact R_xor v6 (R_and (R_xor R_all v7) v8)) fun o6 w6 => ?_
  refine Rs_force (x := kround k s 7) (by rw [kr7, kb7]; exact R_xor v7 (R_and (R_xor R_all v8) v9)) fun o7 w7 => ?_
  refine Rs_force (x := kround k s 8) (by rw [kr8, kb8]; exact R_xor v8 (R_and (R_xor R_all v9) v5)) fun o8 w8 => ?_
  refine Rs_force (x := kround k s 9) (by rw [kr9, kb9]; exact R_xor v9 (R_and (R_xor R_all v5) v6)) fun o9 w9 => ?_
  refine Rs_force (x := kround k s 10) (by rw [kr10, kb10]; exact R_xor v10 (R_and (R_xor R_all v11) v12)) fun o10 w10 => ?_
  refine Rs_force (x := kround k s 11) (by rw [kr11, kb11]; exact R_xor v11 (R_and (R_xor R_all v12) v13)) fun o11 w11 => ?_
  refine Rs_force (x := kround k s 12) (by rw [kr12, kb12]; exact R_xor v12 (R_and (R_xor R_all v13) v14)) fun o12 w12 => ?_
  refine Rs_force (x := kround k s 13) (by rw [kr13, kb13]; exact R_xor v13 (R_and (R_xor R_all v14) v10)) fun o13 w13 => ?_
  refine Rs_force (x := kround k s 14) (by rw [kr14, kb14]; exact R_xor v14 (R_and (R_xor R_all v10) v11)) fun o14 w14 => ?_
  refine Rs_force (x := kround k s 15) (by rw [kr15, kb15]; exact R_xor v15 (R_and (R_xor R_all v16) v17)) fun o15 w15 => ?_
  refine Rs_force (x := kround k s 16) (by rw [kr16, kb16]; exact R_xor v16 (R_and (R_xor R_all v17) v18)) fun o16 w16 => ?_
  refine Rs_force (x := kround k s 17) (by rw [kr17, kb17]; exact R_xor v17 (R_and (R_xor R_all v18) v19)) fun o17 w17 => ?_
  refine Rs_force (x := kround k s 18) (by rw [kr18, kb18]; exact R_xor v18 (R_and (R_xor R_all v19) v15)) fun o18 w18 => ?_
  refine Rs_force (x := kround k s 19) (by rw [kr19, kb19]; exact R_xor v19 (R_and (R_xor R_all v15) v16)) fun o19 w19 => ?_
  refine Rs_force (x := kround k s 20) (by rw [kr20, kb20]; exact R_xor v20 (R_and (R_xor R_all v21) v22)) fun o20 w20 => ?_
  refine Rs_force (x := kround k s 21) (by rw [kr21, kb21]; exact R_xor v21 (R_and (R_xor R_all v22) v23)) fun o21 w21 => ?_
  refine Rs_force (x := kround k s 22) (by rw [kr22, kb22]; exact R_xor v22 (R_and (R_xor R_all v23) v24)) fun o22 w22 => ?_
  refine Rs_force (x := kround k s 23) (by rw [kr23, kb23]; exact R_xor v23 (R_and (R_xor R_all v24) v20)) fun o23 w23 => ?_
  refine Rs_force (x := kround k s 24) (by rw [kr24, kb24]; exact R_xor v24 (R_and (R_xor R_all v20) v21)) fun o24 w24 => ?_
  clear v0 v1 v2 v3 v4 v5 v6 v7 v8 v9 v10 v11 v12 v13 v14 v15 v16 v17 v18 v19 v20 v21 v22 v23 v24
  intro i hi
  rcases (by omega : i = 0 ∨ i = 1 ∨ i = 2 ∨ i = 3 ∨ i = 4 ∨ i = 5 ∨ i = 6 ∨ i = 7 ∨ i = 8 ∨ i = 9 ∨ i = 10 ∨ i = 11 ∨ i = 12 ∨ i = 13 ∨ i = 14 ∨ i = 15 ∨ i = 16 ∨ i = 17 ∨ i = 18 ∨ i = 19 ∨ i = 20 ∨ i = 21 ∨ i = 22 ∨ i = 23 ∨ i = 24) with rfl | rfl | rfl | rfl | rfl | rfl | rfl | rfl | rfl | rfl | rfl | rfl | rfl | rfl | rfl | rfl | rfl | rfl | rfl | rfl | rfl | rfl | rfl | rfl | rfl
  · exact w0
  · exact w1
  · exact w2
  · exact w3
  · exact w4
  · exact w5
  · exact w6
  · exact w7
  · exact w8
  · exact w9
  · exact w10
  · exact w11
  · exact w12
  · exact w13
  · exact w14
  · exact w15
  · exact w16
  · exact w17
  · exact w18
  · exact w19
  · exact w20
  · exact w21
  · exact w22
  · exact w23
  · exact w24
theorem R_con : ∀ k, k < 12 → R (conN k) ([2147516555, 9223372036854775947, 9223372036854808713, 9223372036854808579, 9223372036854808578, 9223372036854775936, 32778, 9223372039002259466, 9223372039002292353, 9223372036854808704, 2147483649, 9223372039002292232].getD k 0) := by
  intro k hk
  rcases (by omega : k = 0 ∨ k = 1 ∨ k = 2 ∨ k = 3 ∨ k = 4 ∨ k = 5 ∨ k = 6 ∨ k = 7 ∨ k = 8 ∨ k = 9 ∨ k = 10 ∨ k = 11) with rfl | rfl | rfl | rfl | rfl | rfl | rfl | rfl | rfl | rfl | rfl | rfl <;> exact ⟨rfl, by decide⟩
theorem Rs_perm {s : Nat → Int} {S : St} (h : Rs s S) : Rs (kperm 12 s) (nperm S) :=
  Rs_round (Rs_round (Rs_round (Rs_round (Rs_round (Rs_round (Rs_round (Rs_round (Rs_round (Rs_round (Rs_round (Rs_round (h) 0 2147516555 (R_con 0 (by omega))) 1 9223372036854775947 (R_con 1 (by omega))) 2 9223372036854808713 (R_con 2 (by omega))) 3 9223372036854808579 (R_con 3 (by omega))) 4 9223372036854808578 (R_con 4 (by omega))) 5 9223372036854775936 (R_con 5 (by omega))) 6 32778 (R_con 6 (by omega))) 7 9223372039002259466 (R_con 7 (by omega))) 8 9223372039002292353 (R_con 8 (by omega))) 9 9223372036854808704 (R_con 9 (by omega))) 10 2147483649 (R_con 10 (by omega))) 11 9223372039002292232 (R_con 11 (by omega))
end Go.Proofs.Ytnajihlhcdedgaa

namespace Go.Proofs.Ytnajihlhcdedgaa
open Go.RowKit
set_option linter.unusedVariables false
set_option linter.unusedSimpArgs false
/-- The lanes, permuted k times. -/
def kiter : (Nat → Int) → Nat → (Nat → Int)
  | s, 0 => s
  | s, k + 1 => kperm 12 (kiter s k)
theorem kiter_front (s : Nat → Int) : ∀ k, kiter (kperm 12 s) k = kiter s (k + 1)
  | 0 => rfl
  | k + 1 => by
    show kperm 12 (kiter (kperm 12 s) k) = kperm 12 (kiter s (k + 1))
    rw [kiter_front s k]
theorem gives_norm (s : Nat → Int) : ∀ i, norm (gives s 0 i).1 (gives s 0 i).2 = kiter s (i / 168) ∧ normA (gives s 0 i).2 = i % 168
  | 0 => ⟨if_neg (show ¬ (0 : Nat) = 168 by decide), if_neg (show ¬ (0 : Nat) = 168 by decide)⟩
  | i + 1 => by
    obtain ⟨h1, h2⟩ := gives_norm s i
    have e : gives s 0 (i + 1) = (kiter s (i / 168), i % 168 + 1) := by
      show (norm (gives s 0 i).1 (gives s 0 i).2, normA (gives s 0 i).2 + 1) = _
      rw [h1, h2]
    rw [e]
    show (if i % 168 + 1 = 168 then kperm 12 (kiter s (i / 168)) else kiter s (i / 168)) = _ ∧ (if i % 168 + 1 = 168 then 0 else i % 168 + 1) = _
    by_cases h : i % 168 + 1 = 168
    · rw [if_pos h, if_pos h, show (i + 1) / 168 = i / 168 + 1 by omega]
      exact ⟨rfl, by omega⟩
    · rw [if_neg h, if_neg h, show (i + 1) / 168 = i / 168 by omega]
      exact ⟨rfl, by omega⟩
/-- Lane m of all that comes out. -/
def laneO (s : Nat → Int) (m : Nat) : Int := kiter s (m / 21) (m % 21)
theorem outs_lane (s : Nat → Int) (m j : Nat) (hj : j < 8) : outs s 0 (8 * m + j) = laneO s m / 2 ^ (8 * j) % 256 := by
  obtain ⟨h1, h2⟩ := gives_norm s (8 * m + j)
  unfold outs
  rw [h1, h2]
  unfold byteAt laneO
  rw [show (8 * m + j) / 168 = m / 21 by omega, show (8 * m + j) % 168 / 8 = m % 21 by omega, show (8 * m + j) % 168 % 8 = j by omega]
theorem eight (x : Int) (h0 : 0 ≤ x) (h1 : x < 18446744073709551616) : leVal ((List.range 8).map fun j => x / 2 ^ (8 * j) % 256) = x := by
  show x / 1 % 256 + 256 * (x / 256 % 256 + 256 * (x / 65536 % 256 + 256 * (x / 16777216 % 256 + 256 * (x / 4294967296 % 256 + 256 * (x / 1099511627776 % 256 + 256 * (x / 281474976710656 % 256 + 256 * (x / 72057594037927936 % 256 + 256 * 0))))))) = x
  omega
theorem tk_eight (C : Nat → Int) (n k : Nat) (h : in64 (laneO (hashS C n 1) k)) : tk (strm C n) 8 k = laneO (hashS C n 1) k := by
  have e : pieceL (strm C n) 8 k = (List.range 8).map fun j => laneO (hashS C n 1) k / 2 ^ (8 * j) % 256 := by
    unfold pieceL
    refine List.map_congr_left fun j hj => ?_
    have := List.mem_range.1 hj
    show outs (hashS C n 1) 0 (k * 8 + j) = _
    rw [show k * 8 + j = 8 * k + j by omega, outs_lane _ _ _ this]
  unfold tk
  rw [e]
  unfold in64 at h
  exact eight _ h.1 (by omega)
theorem tk_sixteen (C : Nat → Int) (n k : Nat) (h : in64 (laneO (hashS C n 1) (2 * k))) (h' : in64 (laneO (hashS C n 1) (2 * k + 1))) : tk (strm C n) 16 k = laneO (hashS C n 1) (2 * k) + 18446744073709551616 * laneO (hashS C n 1) (2 * k + 1) := by
  have e : pieceL (strm C n) 16 k = pieceL (strm C n) 8 (2 * k) ++ pieceL (strm C n) 8 (2 * k + 1) := by
    unfold pieceL
    apply List.ext_getElem (by simp)
    intro i h1 h2
    have hi : i < 16 := by simpa using h1
    rcases Nat.lt_or_ge i 8 with hl | hl
    · rw [List.getElem_append_left (by simpa using hl)]
      simp only [List.getElem_map, List.getElem_range]
      congr 1
      omega
    · rw [List.getElem_append_right (by simpa using hl)]
      simp only [List.getElem_map, List.getElem_range, List.length_map, List.length_range]
      congr 1
      omega
  have e1 := tk_eight C n (2 * k) h
  have e2 := tk_eight C n (2 * k + 1) h'
  unfold tk at e1 e2 ⊢
  rw [e, leVal_append, e1, e2, pieceL_length]
  rfl
/-- 21 lanes of each of n states are small. -/
def lowAll : Nat → St → Bool := fun n => Nat.rec (fun _ => true) (fun _ ih S => match S with
  | St.mk a0 a1 a2 a3 a4 a5 a6 a7 a8 a9 a10 a11 a12 a13 a14 a15 a16 a17 a18 a19 a20 a21 a22 a23 a24 =>
    cond (Nat.beq (a0 / 18446744069414584321 + a1 / 18446744069414584321 + a2 / 18446744069414584321 + a3 / 18446744069414584321 + a4 / 18446744069414584321 + a5 / 18446744069414584321 + a6 / 18446744069414584321 + a7 / 18446744069414584321 + a8 / 18446744069414584321 + a9 / 18446744069414584321 + a10 / 18446744069414584321 + a11 / 18446744069414584321 + a12 / 18446744069414584321 + a13 / 18446744069414584321 + a14 / 18446744069414584321 + a15 / 18446744069414584321 + a16 / 18446744069414584321 + a17 / 18446744069414584321 + a18 / 18446744069414584321 + a19 / 18446744069414584321 + a20 / 18446744069414584321) 0) (ih (nperm (St.mk a0 a1 a2 a3 a4 a5 a6 a7 a8 a9 a10 a11 a12 a13 a14 a15 a16 a17 a18 a19 a20 a21 a22 a23 a24))) false) n
theorem lowAll_succ {n : Nat} {S : St} (h : lowAll (n + 1) S = true) : (∀ i, i < 21 → S.get i < 18446744069414584321) ∧ lowAll n (nperm S) = true := by
  obtain ⟨a0, a1, a2, a3, a4, a5, a6, a7, a8, a9, a10, a11, a12, a13, a14, a15, a16, a17, a18, a19, a20, a21, a22, a23, a24⟩ := S
  obtain ⟨t, ht⟩ : ∃ t, a0 / 18446744069414584321 + a1 / 18446744069414584321 + a2 / 18446744069414584321 + a3 / 18446744069414584321 + a4 / 18446744069414584321 + a5 / 18446744069414584321 + a6 / 18446744069414584321 + a7 / 18446744069414584321 + a8 / 18446744069414584321 + a9 / 18446744069414584321 + a10 / 18446744069414584321 + a11 / 18446744069414584321 + a12 / 18446744069414584321 + a13 / 18446744069414584321 + a14 / 18446744069414584321 + a15 / 18446744069414584321 + a16 / 18446744069414584321 + a17 / 18446744069414584321 + a18 / 18446744069414584321 + a19 / 18446744069414584321 + a20 / 18446744069414584321 = t := ⟨_, rfl⟩
  have h2 : cond (Nat.beq t 0) (lowAll n (nperm ⟨a0, a1, a2, a3, a4, a5, a6, a7, a8, a9, a10, a11, a12, a13, a14, a15, a16, a17, a18, a19, a20, a21, a22, a23, a24⟩)) false = true := by
    rw [← ht]
    exact h
  cases t with
  | succ t =>
    have h3 : false = true := h2
    cases h3
  | zero =>
    refine ⟨fun i hi => ?_, h2⟩
    unfold St.get St.list
    rcases (by omega : i = 0 ∨ i = 1 ∨ i = 2 ∨ i = 3 ∨ i = 4 ∨ i = 5 ∨ i = 6 ∨ i = 7 ∨ i = 8 ∨ i = 9 ∨ i = 10 ∨ i = 11 ∨ i = 12 ∨ i = 13 ∨ i = 14 ∨ i = 15 ∨ i = 16 ∨ i = 17 ∨ i = 18 ∨ i = 19 ∨ i = 20) with rfl | rfl | rfl | rfl | rfl | rfl | rfl | rfl | rfl | rfl | rfl | rfl | rfl | rfl | rfl | rfl | rfl | rfl | rfl | rfl | rfl <;> simp only [List.getD_cons_zero, List.getD_cons_succ] <;> omega
theorem lowAll_all : ∀ (n : Nat) (s : Nat → Int) (S : St), Rs s S → lowAll n S = true → ∀ k, k < n → ∀ i, i < 21 → 0 ≤ kiter s k i ∧ kiter s k i < 18446744069414584321
  | 0, _, _, _, _, k, hk, _, _ => absurd hk (by omega)
  | n + 1, s, S, hs, h, 0, _, i, hi => by
    obtain ⟨h1, h2⟩ := lowAll_succ h
    have h3 := h1 i hi
    have h4 := hs i (by omega)
    obtain ⟨h5, _⟩ := h4
    show 0 ≤ s i ∧ s i < _
    omega
  | n + 1, s, S, hs, h, k + 1, hk, i, hi => by
    obtain ⟨h1, h2⟩ := lowAll_succ h
    rw [← kiter_front]
    exact lowAll_all n (kperm 12 s) (nperm S) (Rs_perm hs) h2 k (by omega) i hi
/-- The bytes of the question. -/
def tL (j : Nat) : Int := (qL ⟨#[116]⟩ 1 0 (fun _ => 0) (fun _ => 0) 0).getD j 0
/-- The bytes laid in one after the other, without a permutation. -/
def laid (C : Nat → Int) : Nat → (Nat → Int)
  | 0 => fun _ => 0
  | i + 1 => kflip (laid C i) i (C i)
theorem takes_laid (C : Nat → Int) : ∀ i, i ≤ 168 → takes C (fun _ => 0) 0 i = (laid C i, i)
  | 0, _ => rfl
  | i + 1, hi => by
    show (kflip (norm (takes C (fun _ => 0) 0 i).1 (takes C (fun _ => 0) 0 i).2) (normA (takes C (fun _ => 0) 0 i).2) (C i), normA (takes C (fun _ => 0) 0 i).2 + 1) = _
    rw [takes_laid C i (by omega)]
    show (kflip (if i = 168 then _ else _) (if i = 168 then _ else _) (C i), (if i = 168 then _ else _) + 1) = _
    rw [if_neg (by omega), if_neg (by omega)]
    rfl
/-- The lanes ahead of the first permutation. -/
def tS : St := ⟨95233, 0, 4294967296, 0, 0, 0, 0, 0, 0, 0, 0, 0, 0, 0, 0, 0, 0, 0, 0, 0, 9223372036854775808, 0, 0, 0, 0⟩
theorem Rs_start : Rs (kflip (kflip (laid tL 20) 20 1) 167 128) tS := by
  intro i hi
  rcases (by omega : i = 0 ∨ i = 1 ∨ i = 2 ∨ i = 3 ∨ i = 4 ∨ i = 5 ∨ i = 6 ∨ i = 7 ∨ i = 8 ∨ i = 9 ∨ i = 10 ∨ i = 11 ∨ i = 12 ∨ i = 13 ∨ i = 14 ∨ i = 15 ∨ i = 16 ∨ i = 17 ∨ i = 18 ∨ i = 19 ∨ i = 20 ∨ i = 21 ∨ i = 22 ∨ i = 23 ∨ i = 24) with rfl | rfl | rfl | rfl | rfl | rfl | rfl | rfl | rfl | rfl | rfl | rfl | rfl | rfl | rfl | rfl | rfl | rfl | rfl | rfl | rfl | rfl | rfl | rfl | rfl <;> exact ⟨by kernel_rfl, by decide⟩
theorem hash_start : hashS tL 20 1 = kperm 12 (kflip (kflip (laid tL 20) 20 1) 167 128) := by
  unfold hashS kend
  rw [takes_laid tL 20 (by omega)]
  rfl
theorem Rs_hash : Rs (hashS tL 20 1) (nperm tS) := by
  rw [hash_start]
  exact Rs_perm Rs_start
theorem low_391 : lowAll 391 (nperm tS) = true := by kernel_rfl
theorem lane_low (m : Nat) (hm : m < 8192) : 0 ≤ laneO (hashS tL 20 1) m ∧ laneO (hashS tL 20 1) m < 18446744069414584321 :=
  lowAll_all 391 _ _ Rs_hash low_391 (m / 21) (by omega) (m % 21) (by omega)
theorem lane_in (m : Nat) (hm : m < 8192) : in64 (laneO (hashS tL 20 1) m) := by
  have := lane_low m hm
  unfold in64
  omega
/-- Each of the first 4096 pieces is an element. -/
theorem real_ok {f : Int} (hf : isF f) {L : Nat} (hL : (L : Int) = 8 * f) (k : Nat) (hk : k < 4096) : tk (strm tL 20) L k < rP f := by
  rcases hf with rfl | rfl
  · obtain rfl : L = 8 := by omega
    rw [tk_eight _ _ _ (lane_in k (by omega))]
    exact (lane_low k (by omega)).2
  · obtain rfl : L = 16 := by omega
    rw [tk_sixteen _ _ _ (lane_in _ (by omega)) (lane_in _ (by omega))]
    have h0 := lane_low (2 * k) (by omega)
    have h1 := lane_low (2 * k + 1) (by omega)
    show _ < wP
    unfold wP
    omega
end Go.Proofs.Ytnajihlhcdedgaa

namespace Go.Proofs.Ytnajihlhcdedgaa
open Go.RowKit
set_option linter.unusedVariables false
set_option linter.unusedSimpArgs false
attribute [local simp] blkAt_setCell blkAt_alloc blkAt_drew Obj.put_cells
set_option maxRecDepth 100000 in
set_option maxHeartbeats 1000000 in
theorem x_Vec_nil (f many : Int) : Pure Try.prog 86 #[.pointer none, .int .u8 f, .int .i64 many] (.tuple #[.slice none 0 0, .int .i64 1]) := fun w => by
  go_enter Try.func86, Try.ntmps86
  go_wp2_with fail
  go_ret2
  exact ⟨rfl, Kept.refl w⟩
set_option maxRecDepth 100000 in
set_option maxHeartbeats 1000000 in
theorem x_Vec_range (w : World) (x : Nat) (f : Int) (hf : isF f) (many : Int) (h : many < 0 ∨ 4096 < many) :
    Calls Try.prog 86 #[.pointer (some ⟨x, 0, none⟩), .int .u8 f, .int .i64 many] w fun e w' => e = .returned (.tuple #[.slice none 0 0, .int .i64 6]) ∧ Kept w w' := by
  have HV := Lib.hid (f_Valid hf)
  go_enter Try.func86, Try.ntmps86
  go_wp2_with fail
  refine (HV.out _).mono ?_
  rintro e W1 ⟨rfl, k1⟩
  rcases h with h | h
  · go_wp2_with fail
    go_ret2
    exact ⟨rfl, k1⟩
  · have n1 : (0 : Int) ≤ many := by omega
    go_wp2_with fail
    go_ret2
    exact ⟨rfl, k1⟩
/-- The stream of one question, of a source that hashes. -/
theorem x_Stream_T (w : World) (pb : Nat) (hs : RealSrc w pb) : Calls Try.prog 71 #[.pointer (some ⟨pb, 0, none⟩), .string ⟨#[116]⟩, .int .u16 1, .agg #[.int .u8 0, .int .u8 0, .int .u8 0, .int .u8 0, .int .u8 0, .int .u8 0, .int .u8 0, .int .u8 0, .int .u8 0, .int .u8 0, .int .u8 0, .int .u8 0, .int .u8 0, .int .u8 0, .int .u8 0, .int .u8 0], .slice none 0 0] w fun e w' =>
    ∃ x kb Q, e = .returned (.pointer (some ⟨x, 0, none⟩)) ∧ w.heap.size ≤ x ∧ w.heap.size ≤ kb ∧ Kept w w' ∧ RealStr w' x kb pb Q tL 20 0 0 := by
  have h := x_Stream_real_nil w pb hs ⟨#[116]⟩ (by show 1 ≤ 255; omega) 1 1 0 (by decide) (by decide) ⟨by omega, by omega⟩ ⟨by omega, by omega⟩ (fun _ => 0) (Lib.hid fun j _ => ⟨by omega, by omega⟩) 0 (fun _ => 0) rfl
  rw [zero16] at h
  refine h.mono ?_
  rintro e W ⟨x, kb, rfl, h1, h2, h3, h4⟩
  exact ⟨x, kb, _, rfl, h1, h2, h3, h4⟩
theorem x_Vec_T (W : World) (x kb pb : Nat) (Q : ByteArray) (h : RealStr W x kb pb Q tL 20 0 0) (f : Int) (hf : isF f) (many gE : Int) (hg : Hid ((if 0 ≤ many ∧ many ≤ 4096 then 0 else 6) = gE)) :
    Calls Try.prog 86 #[.pointer (some ⟨x, 0, none⟩), .int .u8 f, .int .i64 many] W fun e w' => ∃ va n vc, e = .returned (.tuple #[.slice va n vc, .int .i64 gE]) ∧ Chg (fun j => j = x ∨ j = kb) W w' := by
  rw [← hg.out]
  clear hg
  by_cases hm : 0 ≤ many ∧ many ≤ 4096
  · rw [if_pos hm]
    obtain ⟨L, hL⟩ : ∃ L : Nat, (L : Int) = 8 * f := ⟨(8 * f).toNat, by unfold isF at hf; omega⟩
    have h16 : L ≤ 16 := by unfold isF at hf; omega
    obtain ⟨m, rfl⟩ : ∃ m : Nat, many = (m : Int) := ⟨many.toNat, by omega⟩
    have hm4 : m ≤ 4096 := by omega
    have hok := ok_then (D := strm tL 20) (L := L) (f := f) (k := m) (fun j hj => real_ok hf hL j (by omega))
    refine (x_Vec_ok W x f hf L hL (strm tL 20) (Lib.hid (strm_byte tL 20)) 4096 _ W.heap.size (Nat.le_refl _) (strLaw_R (kb := kb) (pb := pb) (Q := Q) (C := tL) (n := 20) h16 W.heap.size 4096) (fun j => j = x ∨ j = kb) 0 (by omega) ⟨by rw [Nat.zero_mul]; exact h, rfl⟩ m m hm4 hm4 (by omega) (Lib.hid fun j hj => by rw [(hok j (by omega)).1]; exact hj) (Lib.hid fun j hj => by rw [(hok j hj).2]; omega) (hok m (Nat.le_refl _)).1).mono ?_
    rintro e W' ⟨v, S', rfl, own, _, _, ch, _⟩
    obtain ⟨va, vc, rfl⟩ := own_form28 own
    exact ⟨va, m, vc, rfl, ch⟩
  · rw [if_neg hm]
    refine (x_Vec_range W x f hf many (by omega)).mono ?_
    rintro e W' ⟨rfl, k⟩
    exact ⟨none, 0, 0, rfl, Chg.of_kept k⟩
theorem x_Next_T (W : World) (x kb pb : Nat) (Q : ByteArray) (h : RealStr W x kb pb Q tL 20 0 0) (many : Int) (got : Nat) (hg : Hid ((if 0 ≤ many ∧ many ≤ 65536 then many.toNat else 0) = got)) :
    Calls Try.prog 72 #[.pointer (some ⟨x, 0, none⟩), .int .i64 many] W fun e w' => ∃ va vc, e = .returned (.slice va got vc) ∧ Chg (fun j => j = x ∨ j = kb) W w' := by
  rw [← hg.out]
  clear hg
  by_cases hm : 0 ≤ many ∧ many ≤ 65536
  · rw [if_pos hm]
    obtain ⟨m, rfl⟩ : ∃ m : Nat, many = (m : Int) := ⟨many.toNat, by omega⟩
    refine (x_Next_real W x kb pb Q tL 20 0 0 h m (by omega)).mono ?_
    rintro e W' ⟨v, rfl, k, _, own⟩
    obtain ⟨va, vc, rfl⟩ := ownsRow_slicex own
    rw [Int.toNat_natCast]
    exact ⟨va, vc, rfl, Chg.of_touch k (.inr rfl)⟩
  · rw [if_neg hm]
    by_cases hn : many < 0
    · refine (x_Next_neg x many hn W).mono ?_
      rintro e W' ⟨rfl, k⟩
      exact ⟨none, 0, rfl, Chg.of_kept k⟩
    · refine (x_Next_big x many (by omega) W).mono ?_
      rintro e W' ⟨rfl, k⟩
      exact ⟨none, 0, rfl, Chg.of_kept k⟩
/-- Bytes that lie at any address, as a string. -/
theorem conv_at {w : World} {ad : Addr} {n cap : Nat} {C : Nat → Int} (hb : ∀ j, j < n → 0 ≤ C j ∧ C j ≤ 255) (hc : ∀ j, j < n → w.cell? (ad.add j) = some (.int .u8 (C j))) : (convert 42 9 (.slice (some ad) n cap)).run Try.prog w = .ok (.string (strR n C)) w := by
  have h := run_convert_bytes_back (P := Try.prog) w 42 9 5 ad cap (((List.range n).map C).map fun b => UInt8.ofNat b.toNat) Try.underlying42 Try.underlying5 Try.underlying9 (by
    intro j hj
    have hj' : j < n := by simpa using hj
    rw [hc j hj']
    have := hb j hj'
    simp only [List.getElem_map, List.getElem_range, UInt8.toNat_ofNat']
    congr 2
    omega)
  rw [List.length_map, List.length_map, List.length_range] at h
  exact h
theorem conv_draws {w : World} {a : Option Addr} {n cap : Nat} {C : Nat → Int} (h : DrawsAt w a n cap C) (hb : ∀ j, j < n → 0 ≤ C j ∧ C j ≤ 255) : (convert 42 9 (.slice a n cap)).run Try.prog w = .ok (.string (strR n C)) w := by
  rcases h with ⟨rfl, rfl, rfl⟩ | ⟨ad, rfl, hc⟩
  · exact conv_nil w
  · exact conv_at hb hc
set_option maxRecDepth 100000 in
set_option maxHeartbeats 1000000 in
theorem x_more0 (w : World) (b M : Nat) (da : Option Addr) (nd dc : Nat) (D : Nat → Int) (pos : Nat) (es : Array MapEntry) (ck : Nat) (av : Value) (ho : Orc w b M da nd dc D pos es ck av)
    (q : ByteArray) (i : Nat) (hf : Instr.findNow .string (.string q) es.toList 0 = some (some (i, .slice none 0 0))) :
    Calls Try.prog 130 #[.pointer (some ⟨b, 0, none⟩), .string q, .int .i64 0] w fun e w' => e = .returned (.slice none 0 0) ∧ Kept w w' := by
  have HF := Lib.hid hf
  clear hf
  go_enter Try.func130, Try.ntmps130
  go_wp2_with fail
  go_loopg [] 0 (fun gk wr => Kept w wr)
  case atStart => exact Kept.refl _
  case round =>
    have o := ho.kept hrel
    have hl := run_lookup_yes o.map HF.out
    have c3 := o.blk.cell 3 rfl
    go_wp2_with fail
    go_ret
    exact ⟨rfl, hrel⟩
set_option maxRecDepth 100000 in
set_option maxHeartbeats 1000000 in
theorem x_Next_o0 (w : World) (x b M : Nat) (q : ByteArray) (hx : OStr w x b q 0 0) (da : Option Addr) (nd dc : Nat) (D : Nat → Int) (pos : Nat) (es : Array MapEntry) (ck : Nat) (av : Value) (ho : Orc w b M da nd dc D pos es ck av)
    (i : Nat) (hf : Instr.findNow .string (.string q) es.toList 0 = some (some (i, .slice none 0 0))) :
    Calls Try.prog 72 #[.pointer (some ⟨x, 0, none⟩), .int .i64 0] w fun e w' => ∃ v, e = .returned v ∧ w'.ownsRow w.heap.size 5 1 v 0 [] ∧ Chg (fun j => j = x) w w' := by
  have c0 := hx.cell 0 rfl
  have c1 := hx.cell 1 rfl
  have c2 := hx.cell 2 rfl
  have c3 := hx.cell 3 rfl
  have ltx := hx.lt
  go_enter Try.func72, Try.ntmps72
  go_upto_region 5 with (fail)
  try simp only [List.append_eq, List.cons_append, List.nil_append]
  refine wp_region_wl (fun _ => oneMean 5 #[]) 14 (by kernel_rfl) (by as_aux_lemma => kernel_rfl) _ rfl _ rfl _ _ rfl rfl (fun k0 Lq hLq => ?_)
  dsimp only [List.map_cons, List.map_nil, List.take_succ_cons, List.take_zero, List.drop_succ_cons, List.drop_zero] at hLq ⊢
  repeat (first
    | (refine WL.skip rfl rfl ?_; dsimp only [List.set_cons_zero, List.set_cons_succ])
    | (refine WL.ex rfl rfl (by kernel_rfl) rfl ?_; apply Exists.intro; refine And.intro (fun w' hk => ?_) (And.intro ?_ ?_); (focus (have q0 := hk.cell c0; have q2 := hk.cell c2; have q3 := hk.cell c3; clear hk; go_simp; exact rfl)); (focus (exact rfl)); dsimp only [List.set_cons_zero, List.set_cons_succ]))
  refine WL.nil (hLq _ ?_)
  clear hLq
  intro a'' V hk hra
  obtain rfl := hra.mark0 (by kernel_rfl)
  clear hra
  try simp only [List.drop_succ_cons, List.drop_zero, List.drop_nil]
  have hxV := hx.kept hk
  have HM := Lib.hid (x_more0 V b M da nd dc D pos es ck av (ho.kept hk) q i hf)
  clear c0 c1 c2 c3
  go_wp2_with fail
  refine HM.out.mono ?_
  rintro e W1 ⟨rfl, hk1⟩
  have kk1 := hk.trans hk1
  have hx1 := hxV.kept hk1
  have own0 : (W1.alloc (.cells #[] 5)).ownsRow W1.heap.size 5 1 (.slice (some ⟨W1.heap.size, 0, none⟩) 0 0) 0 [] := World.ownsRow_made W1 #[] 0 (Nat.le_refl _) (by decide) rfl
  have ltx1 := hx1.lt
  have c3 := hx1.cell 3 rfl
  have d3 := (hx1.alloc (.cells #[] 5)).cell 3 rfl
  clear HM
  go_upto_region 7 with (at_builtin; refine app_nil own0 (.tmp 43) (.tmp 49) rfl rfl rfl rfl ?_)
  refine abs_world (fun W => Kept W1 W ∧ W.ownsRow W1.heap.size 5 1 (.slice (some ⟨W1.heap.size, 0, none⟩) 0 0) 0 []) ⟨(Kept.refl W1).alloc _, own0⟩ ?_
  clear own0 c3 d3
  rintro W2 ⟨hk2, own2⟩
  have kk2 := kk1.trans hk2
  have hx2 := hx1.kept hk2
  have c3 := hx2.cell 3 rfl
  have f3 := hx2.free
  go_wp2_with fail
  go_ret
  have ks := chg_set W2 x 3 (.int .i64 0)
  exact ⟨_, rfl, ks.own (ownsRow_base own2 kk1.size) (fun g hg h => by have := own_lt own2 hg; omega), (Chg.of_kept kk2).trans ks fun _ _ h => h⟩
/-- The first n bytes of the stream of a question that was asked once: n draws. -/
theorem x_Next_oT (W : World) (x b M : Nat) (c : UInt8) (hx : OStr W x b (qOf c) 0 0) (da : Option Addr) (nd dc : Nat) (D : Nat → Int) (av : Value) (ho : Orc W b M da nd dc D 0 (#[].push { key := .string (qOf c), val := .slice none 0 0, born := 0 }) 1 av) (hnd : nd ≤ 200) (hbx : b < x) (hMb : M < b) :
    Calls Try.prog 72 #[.pointer (some ⟨x, 0, none⟩), .int .i64 (nd : Int)] W fun e w' => ∃ va vc, e = .returned (.slice va nd vc) ∧ w'.ownsRow W.heap.size 5 1 (.slice va nd vc) nd (bytesR nd D) ∧ Chg (fun j => j = b ∨ j = M ∨ j = x) W w' := by
  rcases Nat.eq_zero_or_pos nd with h0 | h0
  · subst h0
    refine (x_Next_o0 W x b M (qOf c) hx da 0 dc D 0 _ 1 av ho 0 (find_one (qOf c))).mono ?_
    rintro e w' ⟨v, rfl, own, ch⟩
    obtain ⟨va, vc, rfl⟩ := ownsRow_slicex own
    exact ⟨va, vc, rfl, own, ch.mono fun _ _ h => .inr (.inr h)⟩
  · refine (x_Next_o W x b M (qOf c) 0 0 hx da nd dc D 0 _ 1 av ho 0 (.slice none 0 0) (find_one (qOf c)) W.heap.size 0 nd (drawn D nd) (World.ownsRow_nil _ _ _ _) (by have := hx.lt; omega) (Nat.le_refl _) (by omega) h0 (by omega) (by omega) (by omega) (by omega) (Lib.hid fun j _ _ => by congr 1; omega) (by omega) (by omega) (by intro h; cases h)).mono ?_
    rintro e w' ⟨v, u', rfl, own, _, _, _, ch, _, _⟩
    have e : (bytesR nd fun j => drawn D nd (0 + j)) = bytesR nd D := by
      unfold bytesR
      refine List.map_congr_left fun j hj => ?_
      have := List.mem_range.1 hj
      show Value.int .u8 (if 0 + j < nd then D (0 + j) else 0) = _
      rw [Nat.zero_add, if_pos this]
    rw [e] at own
    obtain ⟨va, vc, rfl⟩ := ownsRow_slicex own
    exact ⟨va, vc, rfl, own, ch.mono fun i _ h => by
      rcases h with h | h | h | h
      · exact .inl h
      · exact .inr (.inl h)
      · exact .inr (.inr h)
      · cases h⟩
set_option maxRecDepth 100000 in
set_option maxHeartbeats 1000000 in
theorem x_OracleO (w : World) (sl : Option Addr) (n cap : Nat) (D : Nat → Int) (hn : n ≤ 65536) (hb : (sl = none ∧ n = 0 ∧ cap = 0) ∨ ∃ ad : Addr, sl = some ad ∧ ∀ j, j < n → w.cell? (ad.add j) = some (.int .u8 (D j))) (hD : ∀ j, j < n → 0 ≤ D j ∧ D j ≤ 255) :
    Calls Try.prog 85 #[.slice sl n cap] w fun e w' => ∃ b M da dc, e = .returned (.pointer (some ⟨b, 0, none⟩)) ∧ w.heap.size ≤ M ∧ Orc w' b M da n dc D 0 #[] 0 (.slice none 0 0) ∧ Kept w w' ∧ w'.ownsRow w.heap.size 5 1 (.slice da n dc) n (bytesR n D) := by
  have own0 : (w.alloc (.cells #[] 5)).ownsRow w.heap.size 5 1 (.slice (some ⟨w.heap.size, 0, none⟩) 0 0) 0 [] := World.ownsRow_made w #[] 0 (Nat.le_refl _) (by decide) rfl
  have hmm := fun w' => run_makeMap (P := Try.prog) 141 w'
  have fin : ∀ W5 v5, W5.ownsRow w.heap.size 5 1 v5 n ((List.range n).map fun j => Value.int .u8 (D j)) → Kept w W5 → ∃ b M da dc, Ending.returned (.pointer (some ⟨W5.heap.size + 1, 0, none⟩)) = Ending.returned (.pointer (some ⟨b, 0, none⟩)) ∧ w.heap.size ≤ M ∧
      Orc ((W5.alloc (.map #[] 0)).alloc (.cells #[.bool true, v5, .int .i64 0, .map (some W5.heap.size), .slice none 0 0] 143)) b M da n dc D 0 #[] 0 (.slice none 0 0) ∧ Kept w ((W5.alloc (.map #[] 0)).alloc (.cells #[.bool true, v5, .int .i64 0, .map (some W5.heap.size), .slice none 0 0] 143)) ∧ ((W5.alloc (.map #[] 0)).alloc (.cells #[.bool true, v5, .int .i64 0, .map (some W5.heap.size), .slice none 0 0] 143)).ownsRow w.heap.size 5 1 (.slice da n dc) n (bytesR n D) := fun W5 v5 own5 k5 => by
    obtain ⟨da, dc, rfl⟩ := ownsRow_slicex own5
    have hs := SlB.of_own own5 hD
    have e : (W5.alloc (.map #[] 0)).heap.size = W5.heap.size + 1 := by simp
    refine ⟨_, W5.heap.size, da, dc, rfl, k5.size, ⟨?_, ?_, Nat.lt_succ_self _, (hs.kept ((Kept.refl W5).alloc _)).kept ((Kept.refl _).alloc _)⟩, (k5.alloc _).alloc _, (own5.alloc _).alloc _⟩
    · have := Blk.new (W5.alloc (.map #[] 0)) 143 #[.bool true, .slice da n dc, .int .i64 0, .map (some W5.heap.size), .slice none 0 0]
      rw [e] at this
      exact this
    · exact (heap_alloc_old _ _ (by rw [e]; omega)).trans (heap_alloc_new W5 _)
  rcases hb with ⟨rfl, rfl, rfl⟩ | ⟨ad, rfl, hc⟩
  · go_enter Try.func85, Try.ntmps85
    go_wp2_with (at_builtin; refine app_nil own0 (.tmp 3) (.tmp 4) rfl rfl rfl rfl ?_)
    refine ⟨rfl, .pointer (some ⟨w.heap.size + 1 + 1, 0, none⟩), by simp [results, Try.results85, go_sem], ?_⟩
    have f := fin _ _ own0 ((Kept.refl w).alloc _)
    simpa using f
  · go_enter Try.func85, Try.ntmps85
    go_wp2_with (at_builtin; refine app_bytesA own0 ad n cap ((List.range n).map fun j => Value.int .u8 (D j)) (by simp) (one8x n D) (by intro j u hj; exact ((Kept.refl w).alloc _).cell (cellsA hc j u hj)) (by omega) (by simp) (.tmp 3) (.tmp 4) rfl rfl rfl rfl ?_; intro v5 W5 own5 gr5 _; rw [Nat.zero_add, List.nil_append] at own5; obtain ⟨da, dc, rfl⟩ := ownsRow_slicex own5)
    have k5 := grown_kept ((Kept.refl w).alloc _) own0 gr5 (Nat.le_refl _)
    clear own0 gr5
    go_ret
    exact fin _ _ own5 k5
/-- The draws as another row says. -/
theorem SlB.glue {w w' : World} {a : Option Addr} {n cap N N' : Nat} {C C' : Nat → Int} (h : SlB w a n cap N C) (h' : SlB w' a n cap N' C') : SlB w' a n cap N C' :=
  ⟨fun j hj => by
    obtain ⟨p, h1, h2, h3⟩ := h.at' j hj
    obtain ⟨p', h1', h2', _⟩ := h'.at' j hj
    have e := (h1 w).symm.trans (h1' w)
    injection e with e
    injection e with e
    injection e with e
    subst e
    exact ⟨p, h1, h2', h3⟩, h'.byte⟩
/-- An oracle while older blocks change: its draws are its own. -/
theorem Orc.own_chg {S : Nat → Prop} {w w' : World} {b M : Nat} {da : Option Addr} {nd dc : Nat} {D : Nat → Int} {pos : Nat} {es : Array MapEntry} {ck : Nat} {av : Value} {B : Nat} (h : Orc w b M da nd dc D pos es ck av) (own : w.ownsRow B 5 1 (.slice da nd dc) nd (bytesR nd D)) (hD : ∀ j, j < nd → 0 ≤ D j ∧ D j ≤ 255) (k : Chg S w w') (hb : ¬ S b) (hM : ¬ S M) (hB : ∀ i, B ≤ i → ¬ S i) : Orc w' b M da nd dc D pos es ck av :=
  ⟨k.blk h.blk hb, k.heap h.map hM, h.lt, h.draws.glue (SlB.of_own (k.own own fun g hg => hB g (own_lt own hg).1) hD)⟩
section
variable {ops : Array Oper} {rest : List Oper} {o : Oper} {a : Act} {Q : Exit → Act → World → Prop} {wr : World} {base : Nat} {v : Value} {n : Nat} {xs : List Value}
/-- Draws appended. -/
theorem app_draws (hown : wr.ownsRow base 5 1 v n xs) {da : Option Addr} {nd dc : Nat} {C : Nat → Int} (hD : DrawsAt wr da nd dc C) (hn : n + nd ≤ 140737488355328) (hbase : base ≤ wr.heap.size) (s x : Operand) (hgd : o.guard = none) (ho : o.op = .call { callee := .builtin .append, args := #[s, x], argTypes := #[42, 42] })
    (hs : a.eval s = v) (hx : a.eval x = .slice da nd dc)
    (h : ∀ v' w', w'.ownsRow base 5 1 v' (n + nd) (xs ++ bytesR nd C) → wr.grownBy w' v.ownBlock → wpList Try.prog ops Q rest (a.put o.dst v') w') :
    wpList Try.prog ops Q (o :: rest) a wr := by
  rcases hD with ⟨rfl, rfl, rfl⟩ | ⟨ad, rfl, hc⟩
  · exact app_nil hown s x hgd ho hs hx (h v wr (by simpa [bytesR] using hown) ⟨rfl, rfl, rfl, Nat.le_refl _, fun _ _ _ => rfl⟩)
  · exact app_bytesA hown ad nd dc (bytesR nd C) (bytesR_length nd C) (one8x nd C) (fun j u hj => cellsA hc j u hj) hn hbase s x hgd ho hs hx fun v' w' h1 h2 _ => h v' w' h1 h2
end
theorem DrawsAt.of_own {w : World} {base : Nat} {a : Option Addr} {n c : Nat} {C : Nat → Int} (h : w.ownsRow base 5 1 (.slice a n c) n (bytesR n C)) : DrawsAt w a n c C := by
  rcases h.2 with ⟨h1, h0⟩ | ⟨g, cap, cur, h1, _⟩
  · injection h1 with e1 e2 e3
    exact .inl ⟨e1, h0, e3⟩
  · injection h1 with e1 e2 e3
    subst e1
    refine .inr ⟨_, rfl, fun j hj => ?_⟩
    exact h.cells (g := g) rfl j _ (by simp [bytesR, hj])
theorem bytesR_set (n i : Nat) (C : Nat → Int) (y : Int) : (bytesR n C).set i (.int .u8 y) = bytesR n (fun j => if j = i then y else C j) := by
  unfold bytesR
  apply List.ext_getElem (by simp)
  intro j h1 h2
  rw [List.getElem_set]
  simp only [List.getElem_map, List.getElem_range]
  by_cases h : i = j
  · subst h
    rw [if_pos rfl, if_pos rfl]
  · rw [if_neg h, if_neg fun e => h e.symm]
end Go.Proofs.Ytnajihlhcdedgaa

namespace Go.Proofs.Ytnajihlhcdedgaa
open Go.ChangeShapes Go.WideShapes Go.ChangeAt Go.RowKit
set_option linter.unusedVariables false
set_option linter.unusedSimpArgs false
attribute [local simp] blkAt_setCell blkAt_alloc blkAt_drew Obj.put_cells
/-- A pointer to a source; a slice that is too long. -/
def noneMean : Means := fun k => match k with
  | 0 => ⟨fun v _ => ∃ b, v = .pointer (some ⟨b, 0, none⟩), fun v w w' h _ => h, fun b w h => by obtain ⟨_, h⟩ := h; cases h⟩
  | _ => ⟨fun v _ => ∃ ad cap, v = .slice (some ad) 65537 cap, fun v w w' h _ => h, fun b w h => by obtain ⟨_, _, h⟩ := h; cases h⟩
set_option maxRecDepth 100000 in
set_option maxHeartbeats 2000000 in
theorem xof_none_r (w : World) (da : Option Addr) (nd dc : Nat) (C : Nat → Int) (hC : ∀ j, j < nd → 0 ≤ C j ∧ C j ≤ 255) (hDA : DrawsAt w da nd dc C) (many n f : Int) (hF : Pure Try.prog 77 #[.int .u8 n] (.int .u8 f)) (hf : isF f) :
    Calls Try.prog 21 #[.slice da nd dc, .int .i64 many, .int .u8 n] w fun e w' => e = .returned (.bool true) ∧ Kept w w' := by
  have HA := Lib.hid x_Awake
  have HF := Lib.hid hF
  have HS0 := x_Stream_nobody ⟨#[116]⟩ 1 (fun _ => 0) none 0 0
  rw [zero16] at HS0
  have HS0 := Lib.hid HS0
  have HSL0 := fun (pb : Nat) (ad : Option Addr) (cap : Nat) => x_Stream_long pb ⟨#[116]⟩ (by show (1 : Int) ≤ 255; omega) 1 (fun _ => 0) ad 65537 cap (by omega)
  simp only [zero16] at HSL0
  have HSL := Lib.hid HSL0
  obtain ⟨gE, HGE⟩ : ∃ z : Int, Hid ((if 0 ≤ many ∧ many ≤ 4096 then (0 : Int) else 6) = z) := ⟨_, Lib.hid rfl⟩
  obtain ⟨got, HGO⟩ : ∃ z : Nat, Hid ((if 0 ≤ many ∧ many ≤ 65536 then many.toNat else 0) = z) := ⟨_, Lib.hid rfl⟩
  clear hF HSL0
  go_enter Try.func21, Try.ntmps21
  go_wp2_with fail
  refine (HA.out _).mono ?_
  rintro e W1 ⟨rfl, k1⟩
  by_cases h200 : (200 : Int) < (nd : Int)
  · go_wp2_with fail
    go_ret
    exact ⟨rfl, k1⟩
  have y200 : (nd : Int) ≤ 200 := by omega
  clear h200
  go_wp2_with fail
  refine (HS0.out _).mono ?_
  rintro e W2 ⟨rfl, hk⟩
  have k2 := k1.trans hk
  clear k1 hk HS0
  go_wp2_with fail
  refine (x_Vec_nil 1 3 _).mono ?_
  rintro e W3 ⟨rfl, hk⟩
  have k3 := k2.trans hk
  clear k2 hk
  go_wp2_with fail
  refine (x_Asked_nobody _).mono ?_
  rintro e W4 ⟨rfl, hk⟩
  have k4 := k3.trans hk
  clear k3 hk
  have own0 : (W4.alloc (.cells #[] 5)).ownsRow W4.heap.size 5 1 (.slice (some ⟨W4.heap.size, 0, none⟩) 0 0) 0 [] := World.ownsRow_made W4 #[] 0 (Nat.le_refl _) (by decide) rfl
  go_wp2_with (at_builtin; refine app_draws own0 ((hDA.kept k4).kept ((Kept.refl W4).alloc _)) (by omega) (by simp) (.tmp 42) (.tmp 43) rfl rfl rfl rfl ?_; intro v5 W5 own5 gr5; rw [Nat.zero_add, List.nil_append] at own5; obtain ⟨va, vc, rfl⟩ := ownsRow_slicex own5)
  have k5 := grown_kept (k4.alloc _) own0 gr5 k4.size
  have sz4 := k4.size
  have HO := Lib.hid (x_OracleO W5 va nd vc C (by omega) (DrawsAt.of_own own5) hC)
  clear own0 gr5 k4
  refine HO.out.mono ?_
  rintro e W6 ⟨b, M, oa, oc, rfl, hM, o1, hk, ownD⟩
  have k6 := k5.trans hk
  have hva : ∀ g, (Value.slice va nd vc).ownBlock = some g → w.heap.size ≤ g ∧ g < W5.heap.size := fun g hg => by have := own_lt own5 hg; omega
  have own6 := ownsRow_kept own5 hk
  have lMb := o1.lt
  have lb6 := o1.blk.lt
  have sz5 := k5.size
  clear k5 hk own5 HO
  go_wp2_with fail
  go_loopw [49] (fun t wr => ∃ (i : Nat) (E : Nat → Int), i ≤ nd ∧ t = .int .i64 i ∧ wr.ownsRow W4.heap.size 5 1 (.slice va nd vc) nd (bytesR nd E) ∧ Chg (fun j => (Value.slice va nd vc).ownBlock = some j) W6 wr) (fun t _ => nd - (intOf t).toNat)
  case atStart => exact ⟨0, C, Nat.zero_le _, rfl, own6, Chg.refl _ _⟩
  case round =>
    clear own6
    obtain ⟨i, E, hi, rfl, own, ch⟩ := hrel
    have zi : (0 : Int) ≤ (i : Int) := by omega
    rcases Nat.lt_or_ge i nd with hlt | hge
    · have yi : (i : Int) < (nd : Int) := by omega
      obtain ⟨g, cap, hv, hcap, hcap63, hg0, hgl, hcl⟩ := own_at own (by omega)
      injection hv with e1 e2 e3
      subst va
      subst vc
      have ci := hcl i hlt
      have fi := own.frozenAt i
      obtain ⟨y, hy⟩ : ∃ y, E i = y := ⟨_, rfl⟩
      rw [hy] at ci
      have hst := own.stored i (.int .u8 (IntKind.u8.wrap (y + 1)))
      rw [bytesR_set] at hst
      clear hy hcl e2
      go_wp2_with fail
      go_roundw
      case rel => exact ⟨i + 1, _, by omega, by go_num, hst.1, ch.trans (chg_set wr g i _) (fun j _ h => by subst h; rfl)⟩
      case measure => simp [intOf]; omega
    · have yi : (nd : Int) ≤ (i : Int) := by omega
      have hie : i = nd := by omega
      subst i
      have o2 := o1.own_chg ownD hC ch (fun h => by have := hva _ h; omega) (fun h => by have := hva _ h; omega) (fun i hi h => by have := hva _ h; omega)
      have k7 : Kept w wr := ((Chg.of_kept (S := fun j => (Value.slice va nd vc).ownBlock = some j) k6).trans ch fun _ _ h => h).kept (fun i hi h => by have := hva _ h; omega)
      clear own ch o1 ownD k6 hge hi
      go_wp2_with fail
      refine (oracle_stream wr b M oa nd oc C o2 116).mono ?_
      rintro e W8 ⟨x, av, rfl, hx, hxl, X1, o3, ch8⟩
      have lb7 := o2.blk.lt
      have k8 : Kept w W8 := ((Chg.of_kept (S := fun i => i = b ∨ i = M) k7).trans ch8 fun _ _ h => h).kept (fun i hi h => by omega)
      clear k7 ch8 o2
      go_wp2_with fail
      refine (x_Next_oT W8 x b M 116 X1 oa nd oc C av o3 (by omega) (by omega) lMb).mono ?_
      rintro e W9 ⟨v16, c16, rfl, own9, ch9⟩
      have sz7 := k8.size
      have k9 : Kept w W9 := ((Chg.of_kept (S := fun i => i = b ∨ i = M ∨ i = x) k8).trans ch9 fun _ _ h => h).kept (fun i hi h => by omega)
      clear k8 ch9 o3 X1
      go_wp2_with fail
      refine (x_Real _).mono ?_
      rintro e W10 ⟨pb, rfl, hpb, hs, hk⟩
      have k10 := k9.trans hk
      have own10 := ownsRow_kept own9 hk
      have sz9 := k9.size
      clear k9 hk own9
      go_wp2_with fail
      refine (x_Stream_T W10 pb hs).mono ?_
      rintro e W11 ⟨y, kb, Q, rfl, hy, hkb, hk, hstr⟩
      have k11 := k10.trans hk
      have own11 := ownsRow_kept own10 hk
      have sz10 := k10.size
      have h16 : ∀ g, (Value.slice v16 nd c16).ownBlock = some g → g < W10.heap.size := fun g hg => (own_lt own10 hg).2
      clear k10 hk own10 hs
      go_wp2_with fail
      refine (HF.out _).mono ?_
      rintro e W12 ⟨rfl, hk⟩
      have k12 := k11.trans hk
      have own12 := ownsRow_kept own11 hk
      have hstr12 := hstr.chg (Chg.of_kept (S := fun _ => False) hk) (fun h => h) (fun h => h)
      clear k11 hk own11 hstr
      go_wp2_with fail
      refine (x_Vec_T W12 y kb pb Q hstr12 f hf many gE HGE).mono ?_
      rintro e W13 ⟨v18, n18, c18, rfl, ch13⟩
      have own13 := ch13.own own12 (fun g hg h => by have := h16 g hg; omega)
      have k13 : Kept w W13 := ((Chg.of_kept (S := fun i => i = y ∨ i = kb) k12).trans ch13 fun _ _ h => h).kept (fun i hi h => by omega)
      clear k12 ch13 own12 hstr12
      go_wp2_with fail
      refine (x_Real _).mono ?_
      rintro e W14 ⟨pb2, rfl, hpb2, hs2, hk⟩
      have k14 := k13.trans hk
      have own14 := ownsRow_kept own13 hk
      have l14 : ∀ g, (Value.slice v16 nd c16).ownBlock = some g → g < W14.heap.size := fun g hg => (own_lt own14 hg).2
      have sz13 := k13.size
      clear k13 hk own13
      go_wp2_with fail
      refine (x_Stream_T W14 pb2 hs2).mono ?_
      rintro e W15 ⟨y2, kb2, Q2, rfl, hy2, hkb2, hk, hstr2⟩
      have k15 := k14.trans hk
      have own15 := ownsRow_kept own14 hk
      have sz14 := k14.size
      clear k14 hk own14 hs2
      go_wp2_with fail
      refine (x_Next_T W15 y2 kb2 pb2 Q2 hstr2 many got HGO).mono ?_
      rintro e W16 ⟨v20, c20, rfl, ch16⟩
      have own16 := ch16.own own15 (fun g hg h => by have := l14 g hg; omega)
      have k16 : Kept w W16 := ((Chg.of_kept (S := fun i => i = y2 ∨ i = kb2) k15).trans ch16 fun _ _ h => h).kept (fun i hi h => by omega)
      clear k15 ch16 own15 hstr2
      have hgE := HGE.out
      have hgo := HGO.out
      have hq := qaa (strR nd C)
      clear HGE HGO
      rcases (by omega : many < 0 ∨ (0 ≤ many ∧ many ≤ 4096) ∨ (4096 < many ∧ many ≤ 65536) ∨ 65536 < many) with c1 | ⟨c1, c2⟩ | ⟨c1, c2⟩ | c1
      · skip
        rw [if_neg (by omega)] at hgE hgo
        subst gE
        subst got
        go_upto_region 24 with (fail)
        try simp only [List.append_eq, List.cons_append, List.nil_append]
        refine wp_region_wl noneMean 3 (by kernel_rfl) (by as_aux_lemma => kernel_rfl) _ rfl _ rfl _ _ rfl rfl (fun k0 Lq hLq => ?_)
        dsimp only [List.map_cons, List.map_nil, List.take_succ_cons, List.take_zero, List.drop_succ_cons, List.drop_zero] at hLq ⊢
        refine WL.makeAt 0 (f := 70) (args := #[]) rfl rfl (by kernel_rfl) rfl (fun w' _ => (x_Real w').mono (by rintro e w'' ⟨b, rfl, _, _, hk⟩; exact ⟨_, rfl, ⟨b, rfl⟩, hk⟩)) (by intro w'; go_simp; done) ?_
        dsimp only [List.set_cons_zero, List.set_cons_succ]
        refine WL.ex rfl rfl (by kernel_rfl) rfl ?_
        apply Exists.intro
        refine And.intro (fun w' hk => ?_) (And.intro ?_ ?_)
        focus (clear hk; go_simp; exact rfl)
        focus (exact rfl)
        dsimp only [List.set_cons_zero, List.set_cons_succ]
        refine WL.lay 1 rfl rfl (by kernel_rfl) rfl (fun w' hk => ⟨_, _, by have hmk := makefull42 65537 (by omega) w'; go_simp; exact rfl, (Kept.refl w').alloc _, ⟨_, _, rfl⟩⟩) ?_
        dsimp only [List.set_cons_zero, List.set_cons_succ]
        refine WL.nil (hLq _ ?_)
        clear hLq
        intro a'' W17 hk hra
        obtain ⟨v95, v97, ⟨b95, rfl⟩, ⟨a97, c97, rfl⟩, rfl⟩ := hra.mark2 95 0 97 1 (by decide) (by kernel_rfl) rfl rfl
        clear hra
        try simp only [List.drop_succ_cons, List.drop_zero, List.drop_nil]
        have k17 := k16.trans hk
        have own17 := ownsRow_kept own16 hk
        clear hk k16 own16
        go_wp2_with fail
        refine (HSL.out b95 (some a97) c97 _).mono ?_
        rintro e W18 ⟨rfl, hk⟩
        have k18 := k17.trans hk
        have own18 := ownsRow_kept own17 hk
        clear hk k17 own17
        go_wp2_with fail
        refine (x_Next_nil 3 _).mono ?_
        rintro e W19 ⟨rfl, hk⟩
        have k19 := k18.trans hk
        have own19 := ownsRow_kept own18 hk
        clear hk k18 own18
        go_wp2_with fail
        refine (x_Skipped_nil _).mono ?_
        rintro e W20 ⟨rfl, hk⟩
        have k20 := k19.trans hk
        have own20 := ownsRow_kept own19 hk
        have hv16 := conv_R (reads_of_own own20) hC
        have hv0 := conv_draws (hDA.kept k20) hC
        clear hk k19 own19 own20
        generalize strR nd C = S at hv16 hv0 hq
        go_wp2_with fail
        go_ret
        exact ⟨rfl, k20⟩
      · skip
        rw [if_pos ⟨c1, c2⟩] at hgE
        rw [if_pos ⟨c1, by omega⟩] at hgo
        subst gE
        have c3 : many ≤ 65536 := by omega
        have hgb : ((got : Int) == many) = true := by
          have e : (got : Int) = many := by omega
          rw [e]
          exact beq_self_eq_true many
        clear hgo
        go_upto_region 24 with (fail)
        try simp only [List.append_eq, List.cons_append, List.nil_append]
        refine wp_region_wl noneMean 3 (by kernel_rfl) (by as_aux_lemma => kernel_rfl) _ rfl _ rfl _ _ rfl rfl (fun k0 Lq hLq => ?_)
        dsimp only [List.map_cons, List.map_nil, List.take_succ_cons, List.take_zero, List.drop_succ_cons, List.drop_zero] at hLq ⊢
        refine WL.makeAt 0 (f := 70) (args := #[]) rfl rfl (by kernel_rfl) rfl (fun w' _ => (x_Real w').mono (by rintro e w'' ⟨b, rfl, _, _, hk⟩; exact ⟨_, rfl, ⟨b, rfl⟩, hk⟩)) (by intro w'; go_simp; done) ?_
        dsimp only [List.set_cons_zero, List.set_cons_succ]
        refine WL.ex rfl rfl (by kernel_rfl) rfl ?_
        apply Exists.intro
        refine And.intro (fun w' hk => ?_) (And.intro ?_ ?_)
        focus (clear hk; go_simp; exact rfl)
        focus (exact rfl)
        dsimp only [List.set_cons_zero, List.set_cons_succ]
        refine WL.lay 1 rfl rfl (by kernel_rfl) rfl (fun w' hk => ⟨_, _, by have hmk := makefull42 65537 (by omega) w'; go_simp; exact rfl, (Kept.refl w').alloc _, ⟨_, _, rfl⟩⟩) ?_
        dsimp only [List.set_cons_zero, List.set_cons_succ]
        refine WL.nil (hLq _ ?_)
        clear hLq
        intro a'' W17 hk hra
        obtain ⟨v95, v97, ⟨b95, rfl⟩, ⟨a97, c97, rfl⟩, rfl⟩ := hra.mark2 95 0 97 1 (by decide) (by kernel_rfl) rfl rfl
        clear hra
        try simp only [List.drop_succ_cons, List.drop_zero, List.drop_nil]
        have k17 := k16.trans hk
        have own17 := ownsRow_kept own16 hk
        clear hk k16 own16
        go_wp2_with fail
        refine (HSL.out b95 (some a97) c97 _).mono ?_
        rintro e W18 ⟨rfl, hk⟩
        have k18 := k17.trans hk
        have own18 := ownsRow_kept own17 hk
        clear hk k17 own17
        go_wp2_with fail
        refine (x_Next_nil 3 _).mono ?_
        rintro e W19 ⟨rfl, hk⟩
        have k19 := k18.trans hk
        have own19 := ownsRow_kept own18 hk
        clear hk k18 own18
        go_wp2_with fail
        refine (x_Skipped_nil _).mono ?_
        rintro e W20 ⟨rfl, hk⟩
        have k20 := k19.trans hk
        have own20 := ownsRow_kept own19 hk
        have hv16 := conv_R (reads_of_own own20) hC
        have hv0 := conv_draws (hDA.kept k20) hC
        clear hk k19 own19 own20
        generalize strR nd C = S at hv16 hv0 hq
        go_wp2_with fail
        go_ret
        exact ⟨rfl, k20⟩
      · skip
        rw [if_neg (by omega)] at hgE
        rw [if_pos ⟨by omega, c2⟩] at hgo
        subst gE
        have c0 : 0 ≤ many := by omega
        have hgb : ((got : Int) == many) = true := by
          have e : (got : Int) = many := by omega
          rw [e]
          exact beq_self_eq_true many
        clear hgo
        go_upto_region 24 with (fail)
        try simp only [List.append_eq, List.cons_append, List.nil_append]
        refine wp_region_wl noneMean 3 (by kernel_rfl) (by as_aux_lemma => kernel_rfl) _ rfl _ rfl _ _ rfl rfl (fun k0 Lq hLq => ?_)
        dsimp only [List.map_cons, List.map_nil, List.take_succ_cons, List.take_zero, List.drop_succ_cons, List.drop_zero] at hLq ⊢
        refine WL.makeAt 0 (f := 70) (args := #[]) rfl rfl (by kernel_rfl) rfl (fun w' _ => (x_Real w').mono (by rintro e w'' ⟨b, rfl, _, _, hk⟩; exact ⟨_, rfl, ⟨b, rfl⟩, hk⟩)) (by intro w'; go_simp; done) ?_
        dsimp only [List.set_cons_zero, List.set_cons_succ]
        refine WL.ex rfl rfl (by kernel_rfl) rfl ?_
        apply Exists.intro
        refine And.intro (fun w' hk => ?_) (And.intro ?_ ?_)
        focus (clear hk; go_simp; exact rfl)
        focus (exact rfl)
        dsimp only [List.set_cons_zero, List.set_cons_succ]
        refine WL.lay 1 rfl rfl (by kernel_rfl) rfl (fun w' hk => ⟨_, _, by have hmk := makefull42 65537 (by omega) w'; go_simp; exact rfl, (Kept.refl w').alloc _, ⟨_, _, rfl⟩⟩) ?_
        dsimp only [List.set_cons_zero, List.set_cons_succ]
        refine WL.nil (hLq _ ?_)
        clear hLq
        intro a'' W17 hk hra
        obtain ⟨v95, v97, ⟨b95, rfl⟩, ⟨a97, c97, rfl⟩, rfl⟩ := hra.mark2 95 0 97 1 (by decide) (by kernel_rfl) rfl rfl
        clear hra
        try simp only [List.drop_succ_cons, List.drop_zero, List.drop_nil]
        have k17 := k16.trans hk
        have own17 := ownsRow_kept own16 hk
        clear hk k16 own16
        go_wp2_with fail
        refine (HSL.out b95 (some a97) c97 _).mono ?_
        rintro e W18 ⟨rfl, hk⟩
        have k18 := k17.trans hk
        have own18 := ownsRow_kept own17 hk
        clear hk k17 own17
        go_wp2_with fail
        refine (x_Next_nil 3 _).mono ?_
        rintro e W19 ⟨rfl, hk⟩
        have k19 := k18.trans hk
        have own19 := ownsRow_kept own18 hk
        clear hk k18 own18
        go_wp2_with fail
        refine (x_Skipped_nil _).mono ?_
        rintro e W20 ⟨rfl, hk⟩
        have k20 := k19.trans hk
        have own20 := ownsRow_kept own19 hk
        have hv16 := conv_R (reads_of_own own20) hC
        have hv0 := conv_draws (hDA.kept k20) hC
        clear hk k19 own19 own20
        generalize strR nd C = S at hv16 hv0 hq
        go_wp2_with fail
        go_ret
        refine ⟨?_, k20⟩
        have n4 : decide (many ≤ 4096) = false := decide_eq_false (by omega)
        show Ending.returned (.bool (!decide (many ≤ 4096))) = _
        rw [n4]
        rfl
      · skip
        rw [if_neg (by omega)] at hgE hgo
        subst gE
        subst got
        have c0 : 0 ≤ many := by omega
        have c3 : 4096 < many := by omega
        go_upto_region 24 with (fail)
        try simp only [List.append_eq, List.cons_append, List.nil_append]
        refine wp_region_wl noneMean 3 (by kernel_rfl) (by as_aux_lemma => kernel_rfl) _ rfl _ rfl _ _ rfl rfl (fun k0 Lq hLq => ?_)
        dsimp only [List.map_cons, List.map_nil, List.take_succ_cons, List.take_zero, List.drop_succ_cons, List.drop_zero] at hLq ⊢
        refine WL.makeAt 0 (f := 70) (args := #[]) rfl rfl (by kernel_rfl) rfl (fun w' _ => (x_Real w').mono (by rintro e w'' ⟨b, rfl, _, _, hk⟩; exact ⟨_, rfl, ⟨b, rfl⟩, hk⟩)) (by intro w'; go_simp; done) ?_
        dsimp only [List.set_cons_zero, List.set_cons_succ]
        refine WL.ex rfl rfl (by kernel_rfl) rfl ?_
        apply Exists.intro
        refine And.intro (fun w' hk => ?_) (And.intro ?_ ?_)
        focus (clear hk; go_simp; exact rfl)
        focus (exact rfl)
        dsimp only [List.set_cons_zero, List.set_cons_succ]
        refine WL.lay 1 rfl rfl (by kernel_rfl) rfl (fun w' hk => ⟨_, _, by have hmk := makefull42 65537 (by omega) w'; go_simp; exact rfl, (Kept.refl w').alloc _, ⟨_, _, rfl⟩⟩) ?_
        dsimp only [List.set_cons_zero, List.set_cons_succ]
        refine WL.nil (hLq _ ?_)
        clear hLq
        intro a'' W17 hk hra
        obtain ⟨v95, v97, ⟨b95, rfl⟩, ⟨a97, c97, rfl⟩, rfl⟩ := hra.mark2 95 0 97 1 (by decide) (by kernel_rfl) rfl rfl
        clear hra
        try simp only [List.drop_succ_cons, List.drop_zero, List.drop_nil]
        have k17 := k16.trans hk
        have own17 := ownsRow_kept own16 hk
        clear hk k16 own16
        go_wp2_with fail
        refine (HSL.out b95 (some a97) c97 _).mono ?_
        rintro e W18 ⟨rfl, hk⟩
        have k18 := k17.trans hk
        have own18 := ownsRow_kept own17 hk
        clear hk k17 own17
        go_wp2_with fail
        refine (x_Next_nil 3 _).mono ?_
        rintro e W19 ⟨rfl, hk⟩
        have k19 := k18.trans hk
        have own19 := ownsRow_kept own18 hk
        clear hk k18 own18
        go_wp2_with fail
        refine (x_Skipped_nil _).mono ?_
        rintro e W20 ⟨rfl, hk⟩
        have k20 := k19.trans hk
        have own20 := ownsRow_kept own19 hk
        have hv16 := conv_R (reads_of_own own20) hC
        have hv0 := conv_draws (hDA.kept k20) hC
        clear hk k19 own19 own20
        generalize strR nd C = S at hv16 hv0 hq
        go_wp2_with fail
        go_ret
        refine ⟨?_, k20⟩
        have n4 : decide (many ≤ 4096) = false := decide_eq_false (by omega)
        show Ending.returned (.bool (!decide (many ≤ 4096))) = _
        rw [n4]
        rfl
theorem xofNone_walk (a : Option Addr) (nd cap : Nat) (C : Nat → Int) (many : Int) (wm : (Lit.int .i64 many).wf = true) (n : Int) (wn : (Lit.int .u8 n).wf = true) (w : World) (hs : (nd : Int) ≤ 9223372036854775807 ∧ (∀ j, j < nd → 0 ≤ C j ∧ C j ≤ 255) ∧ DrawsAt w a nd cap C) :
    Calls Try.prog 21 #[.slice a nd cap, .int .i64 many, .int .u8 n] w fun e w' => e = .returned (.bool true) ∧ Kept w w' := by
  simp [Lit.wf, IntKind.min, IntKind.max, IntKind.signed, IntKind.bits] at wn wm
  have hF := f_F (n := n) (by omega) (by omega)
  have hf := isF_fOf (n := n) (by omega)
  exact xof_none_r w a nd cap C hs.2.1 hs.2.2 many n (fOf n) hF hf
end Go.Proofs.Ytnajihlhcdedgaa
