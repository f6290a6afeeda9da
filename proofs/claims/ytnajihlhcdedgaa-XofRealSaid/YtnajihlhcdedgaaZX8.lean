/-
  An oracle's answer grows.
-/
import Derived.Test.YtnajihlhcdedgaaZX7
import Derived.Deep.LoopGhost
import Derived.Deep.DrawnRows
namespace Go.Proofs.Ytnajihlhcdedgaa
open Go.RowKit
set_option linter.unusedVariables false
set_option linter.unusedSimpArgs false
attribute [local simp] blkAt_setCell blkAt_alloc blkAt_drew Obj.put_cells
attribute [local go_sem ↓] Go.wp_at_zero Go.wp_at_succ

/-- The entries, the i-th one q's. -/
def esAt (es : Array MapEntry) (i : Nat) (q : ByteArray) (u : Value) : Array MapEntry := es.modify i fun e => { e with key := .string q, val := u }
theorem find_spec (q : ByteArray) : ∀ (l : List MapEntry) (j i : Nat) (u : Value), Instr.findNow .string (.string q) l j = some (some (i, u)) →
    j ≤ i ∧ (∃ e, l[i - j]? = some e ∧ e.key = .string q ∧ e.val = u) ∧ ∀ v, Instr.findNow .string (.string q) (l.modify (i - j) fun e => { e with key := .string q, val := v }) j = some (some (i, v))
  | [], j, i, u, h => by simp [Instr.findNow] at h
  | e :: l, j, i, u, h => by
    unfold Instr.findNow at h
    split at h
    · rename_i hs
      simp only [Option.some.injEq, Prod.mk.injEq] at h
      obtain ⟨rfl, rfl⟩ := h
      have hk : e.key = .string q := by
        unfold Instr.sameNow at hs
        split at hs <;> simp_all
        exact ((MapKept.bytes_beq _ _).1 hs).symm
      refine ⟨Nat.le_refl _, ⟨e, by simp, hk, rfl⟩, fun v => ?_⟩
      simp [Instr.findNow, Instr.sameNow, (MapKept.bytes_beq q q).2 rfl]
    · rename_i hs
      obtain ⟨h1, ⟨e', h2, h3, h4⟩, h5⟩ := find_spec q l (j + 1) i u h
      obtain ⟨d, hd⟩ : ∃ d, i - j = d + 1 := ⟨i - j - 1, by omega⟩
      have hd2 : i - (j + 1) = d := by omega
      rw [hd2] at h2 h5
      refine ⟨by omega, ⟨e', by rw [hd]; simpa using h2, h3, h4⟩, fun v => ?_⟩
      rw [hd, List.modify_succ_cons]
      unfold Instr.findNow
      rw [hs]
      exact h5 v
    · cases h
theorem esAt_find {es : Array MapEntry} {i : Nat} {q : ByteArray} {u : Value} (h : Instr.findNow .string (.string q) es.toList 0 = some (some (i, u))) (v : Value) : Instr.findNow .string (.string q) (esAt es i q v).toList 0 = some (some (i, v)) := by
  have := (find_spec q es.toList 0 i u h).2.2 v
  unfold esAt
  rw [Array.toList_modify]
  exact this
theorem esAt_self {es : Array MapEntry} {i : Nat} {q : ByteArray} {u : Value} (h : Instr.findNow .string (.string q) es.toList 0 = some (some (i, u))) : esAt es i q u = es := by
  obtain ⟨e, h1, h2, h3⟩ := (find_spec q es.toList 0 i u h).2.1
  unfold esAt
  apply Array.ext'
  rw [Array.toList_modify]
  apply List.ext_getElem?
  intro j
  rw [List.getElem?_modify]
  by_cases hj : i = j
  · subst hj
    rw [Nat.sub_zero] at h1
    rw [h1]
    cases e
    simp only at h2 h3
    subst h2 h3
    simp
  · cases es.toList[j]? <;> simp [hj]
theorem esAt_esAt (es : Array MapEntry) (i : Nat) (q : ByteArray) (u v : Value) : esAt (esAt es i q u) i q v = esAt es i q v := by
  unfold esAt
  apply Array.ext'
  simp only [Array.toList_modify]
  apply List.ext_getElem?
  intro j
  simp only [List.getElem?_modify]
  by_cases hj : i = j
  · cases es.toList[j]? <;> simp [hj]
  · cases es.toList[j]? <;> simp [hj]
theorem esAt_get {es : Array MapEntry} {i : Nat} {q : ByteArray} {u : Value} (h : Instr.findNow .string (.string q) es.toList 0 = some (some (i, u))) (v : Value) : ∃ e, (esAt es i q v)[i]? = some e ∧ e.key = .string q := by
  obtain ⟨e, h1, h2, h3⟩ := (find_spec q (esAt es i q v).toList 0 i v (esAt_find h v)).2.1
  exact ⟨e, by simpa using h1, h2⟩
/-- The p-th draw. -/
def drawn (D : Nat → Int) (nd p : Nat) : Int := if p < nd then D p else 0
theorem bytesR_succ (n : Nat) (C : Nat → Int) : bytesR (n + 1) C = bytesR n C ++ [.int .u8 (C n)] := by
  unfold bytesR
  rw [List.range_succ, List.map_append]
  rfl

set_option maxRecDepth 100000 in
set_option maxHeartbeats 2000000 in
theorem x_more (w : World) (b M : Nat) (da : Option Addr) (nd dc : Nat) (D : Nat → Int) (pos : Nat) (es : Array MapEntry) (ck : Nat) (av : Value) (ho : Orc w b M da nd dc D pos es ck av)
    (q : ByteArray) (i : Nat) (u : Value) (hf : Instr.findNow .string (.string q) es.toList 0 = some (some (i, u))) (B0 c many : Nat) (A : Nat → Int) (hown : w.ownsRow B0 5 1 u c (bytesR c A)) (hB0 : b < B0) (hB1 : B0 ≤ w.heap.size) (hc : c ≤ many) (hm0 : 0 < many) (hm : many ≤ 1000000) (hp : pos ≤ 1000000) (hnd : nd ≤ 1000000)
    (HA : Hid (∀ j, c ≤ j → j < many → A j = drawn D nd (pos + (j - c)))) :
    Calls Try.prog 130 #[.pointer (some ⟨b, 0, none⟩), .string q, .int .i64 (many : Int)] w fun e w' => ∃ u', e = .returned u' ∧ w'.ownsRow B0 5 1 u' many (bytesR many A) ∧ Orc w' b M da nd dc D (pos + (many - c)) (esAt es i q u') ck av ∧
      Chg (fun j => j = b ∨ j = M ∨ u.ownBlock = some j) w w' ∧ (∀ g, u'.ownBlock = some g → u.ownBlock = some g ∨ w.heap.size ≤ g) := by
  obtain ⟨i5, hi5, hz0, hz1, hz2⟩ := info_parts info5
  have hself := esAt_self hf
  have hMb := ho.lt
  have HG := Lib.hid (fun v => esAt_get hf v)
  have HE := Lib.hid (fun v => esAt_find hf v)
  have HEE := Lib.hid (fun x v => esAt_esAt es i q x v)
  have hug : ∀ g, u.ownBlock = some g → b < g := fun g hg => by have := own_lt hown hg; omega
  go_enter Try.func130, Try.ntmps130
  go_wp2_with fail
  go_loopg [] (many - c) (fun gk wr => ∃ (t : Nat) (u' : Value), c + t ≤ many ∧ gk = many - (c + t) ∧ Orc wr b M da nd dc D (pos + t) (esAt es i q u') ck av ∧ wr.ownsRow B0 5 1 u' (c + t) (bytesR (c + t) A) ∧
    Chg (fun j => j = b ∨ j = M ∨ u.ownBlock = some j) w wr ∧ (∀ g, u'.ownBlock = some g → u.ownBlock = some g ∨ w.heap.size ≤ g))
  case atStart => exact ⟨0, u, hc, rfl, by rw [hself]; exact ho, hown, Chg.refl _ _, fun g hg => .inl hg⟩
  case round =>
    obtain ⟨t, u', ht, hgk, o, own, k, hat⟩ := hrel
    obtain ⟨sa, sc, rfl⟩ := ownsRow_slicex own
    obtain ⟨m, hmm⟩ : ∃ m, c + t = m := ⟨_, rfl⟩
    rw [hmm] at own ht hgk o hat
    have hl := run_lookup_yes o.map (HE.out _)
    have c3 := o.blk.cell 3 rfl
    have zm : (0 : Int) ≤ (m : Int) := by omega
    rcases Nat.lt_or_ge m many with hlt | hge
    · have ylt : (m : Int) < (many : Int) := by omega
      go_upto_region 3 with (fail)
      have c1 := o.blk.cell 1 rfl
      have c2 := o.blk.cell 2 rfl
      clear hl c3
      obtain ⟨p, hpt⟩ : ∃ p, pos + t = p := ⟨_, rfl⟩
      have hp2 : p ≤ 2000000 := by omega
      rw [hpt] at o c2
      go_region_held3 (fun w' => w'.cell? ⟨b, 2, none⟩ = some (.int .i64 (p : Int)) ∧ w'.cell? ⟨b, 1, none⟩ = some (.slice da nd dc)) (go_keep) (fail)
      refine abs_world (fun W => Kept wr W) (Kept.refl wr).drew ?_
      clear c1 c2
      rintro W1 hk
      have o1 := o.kept hk
      have own1 := ownsRow_kept own hk
      have kk1 := k.trans_kept hk
      clear o own k hk
      have zp : (0 : Int) ≤ (p : Int) := by omega
      rcases Nat.lt_or_ge p nd with hd | hd
      · have yd : (p : Int) < (nd : Int) := by omega
        obtain ⟨pa, hip, cpa, hpa⟩ := o1.draws.at' p hd
        have HY : Hid (drawn D nd p = D p) := Lib.hid (if_pos hd)
        generalize D p = y at cpa HY
        go_upto_region 4 with (fail)
        have c1 := o1.blk.cell 1 rfl
        have c2 := o1.blk.cell 2 rfl
        go_region_held3 (fun w' => w'.cell? ⟨b, 2, none⟩ = some (.int .i64 (p : Int)) ∧ w'.cell? ⟨b, 1, none⟩ = some (.slice da nd dc) ∧ w'.cell? pa = some (.int .u8 y)) (go_keep) (fail)
        refine abs_world (fun W => Kept W1 W) (Kept.refl W1).drew ?_
        clear c1 c2 cpa
        rintro W2 hk
        have o2 := o1.kept hk
        have own2 := ownsRow_kept own1 hk
        have kk2 := kk1.trans_kept hk
        clear o1 own1 kk1 hk
        have hw1 : IntKind.i64.wrap ((p : Int) + 1) = ((p + 1 : Nat) : Int) := by rw [IntWalk.i64_in _ (by omega)]; simp
        have f2 := o2.blk.free
        have c2 := o2.blk.cell 2 rfl
        go_upto_region 6 with (fail)
        refine abs_world (fun W => Chg (fun j => j = b) W2 W ∧ Blk W b 143 #[.bool true, .slice da nd dc, .int .i64 ((p + 1 : Nat) : Int), .map (some M), av]) ⟨(Chg.refl (fun j => j = b) W2).setCell (.inl rfl) _, by simp [Blk, o2.blk.eq]⟩ ?_
        clear f2 c2
        rintro W3 ⟨k3, B3⟩
        have own3 := k3.own own2 (fun g hg => by have := own_lt own2 hg; omega)
        have M3 := k3.heap o2.map (by omega)
        have D3 := k3.slB o2.draws (fun i hi => by omega)
        have kk3 : Chg (fun j => j = b ∨ j = M ∨ u.ownBlock = some j) w W3 := kk2.trans k3 fun i _ h => .inl h
        have sz3 : B0 ≤ W3.heap.size := Nat.le_trans hB1 kk3.size
        have ltb := B3.lt
        clear k3 own2 o2 kk2
        have c3 := B3.cell 3 rfl
        have hlk : ∀ W, W.heap[M]? = some (.map (esAt es i q (.slice sa m sc)) ck) → (Instr.lookup 141 (.map (some M)) (.string q) false).run Try.prog W = .ok (.slice sa m sc) W := fun W h => run_lookup_yes h (HE.out _)
        have hl := hlk _ M3
        obtain ⟨e0, he0, hk0⟩ := HG.out (.slice sa m sc)
        have hl1 := hlk W3.drew M3
        have hl2 := hlk (W3.alloc (.cells #[.int .u8 y] 5)).drew ((heap_alloc_old W3.drew _ (by simpa using (Nat.lt_trans hMb ltb))).trans M3)
        go_region_held3 (fun w' => w'.cell? ⟨b, 3, none⟩ = some (.map (some M)))
          (((try dsimp only); first | assumption | exact Blk.cell (Blk.drew B3) 3 rfl | exact Blk.cell (Blk.alloc (Blk.drew B3) _) 3 rfl | exact Blk.cell B4 3 rfl | exact (chg_putMap _ _ _).cell (Blk.cell B4 3 rfl) (Nat.ne_of_gt hMb)))
          ((refine step_append_lies _ (by rfl) (.tmp 54) (.tmp 56) 42 (by rfl) B0 5 i5 _ 1 1 Try.underlying42 hi5 hz0 hz1 hz2 rfl (by decide) _ _ _ (by rfl) (World.ownsRow.alloc (w := W3.drew) own3 _) ⟨W3.heap.size, 0, none⟩ 1 1 [.int .u8 y] (by rfl) rfl (cell_one_new _ _ _) (by simp [Value.oneCell']) (by omega) (by unfold maxLen; omega) (by omega) (by simp; omega) (W3.heap.size + 1) (by simp) ?_; intro g cap w1 hown1 hgrow hat1 hlt1; have kg := chg_grown hgrow; have M4 := kg.heap ((heap_alloc_old W3.drew _ (by simpa using (Nat.lt_trans hMb ltb))).trans M3) (fun h => by have := own_lt own3 h; omega); have B4 := kg.blk (Blk.alloc (Blk.drew B3) _) (fun h => by have := own_lt own3 h; omega); have c4 := B4.cell 3 rfl; have hu := run_putOld (v := .slice (some ⟨g, 0, none⟩) (m + 1) cap) M4 (HE.out _) he0 hk0))
        all_goals
          have kp := chg_putMap w1 M (.map (esAt (esAt es i q (.slice sa m sc)) i q (.slice (some ⟨g, 0, none⟩) (m + 1) cap)) ck)
          have hgM : g ≠ M := by
            rcases hat1 with h | h
            · have := own_lt own3 h
              omega
            · omega
          have D5 := kp.slB (kg.slB (D3.kept (((Kept.refl W3).drew).alloc _)) (fun j hj h => by have := own_lt own3 h; omega)) (fun j hj => by omega)
          have B5 := kp.blk B4 (Nat.ne_of_gt hMb)
          have M5 := putMap_at w1 (.map (esAt (esAt es i q (.slice sa m sc)) i q (.slice (some ⟨g, 0, none⟩) (m + 1) cap)) ck) (Array.getElem?_eq_some_iff.1 M4).1
          have own5 := kp.own hown1 (fun g' hg' h => by have e : g = g' := Option.some.inj hg'; omega)
          have kk5 := (((kk3.drew).alloc _).grown hgrow (fun g' hg' => by
            rcases hat g' hg' with h | h
            · exact .inl (.inr (.inr h))
            · exact .inr h)).trans kp fun j _ h => .inr (.inl h)
          have hloc : ∀ g', (Value.slice (some ⟨g, 0, none⟩) (m + 1) cap).ownBlock = some g' → u.ownBlock = some g' ∨ w.heap.size ≤ g' := fun g' hg' => by
            obtain rfl : g = g' := Option.some.inj hg'
            rcases hat1 with h | h
            · exact hat _ h
            · right
              have := kk3.size
              omega
          have HA1 := HA.out m (by omega) hlt
          rw [show pos + (m - c) = p by omega, HY.out] at HA1
          rw [← HA1, ← bytesR_succ] at own5
          clear hl hl1 hl2 hlk hu
          go_wp2_with fail
          go_roundg (many - (m + 1))
          case measure => omega
          case rel =>
            refine ⟨t + 1, .slice (some ⟨g, 0, none⟩) (m + 1) cap, by omega, by omega, ?_, by rw [show c + (t + 1) = m + 1 by omega]; exact own5, kk5, hloc⟩
            rw [← HEE.out (.slice sa m sc) (.slice (some ⟨g, 0, none⟩) (m + 1) cap)]
            exact ⟨by rw [show pos + (t + 1) = p + 1 by omega]; exact B5, M5, hMb, D5⟩
      · have yd : (nd : Int) ≤ (p : Int) := by omega
        have HY : Hid (drawn D nd p = 0) := Lib.hid (if_neg (by omega))
        obtain ⟨y, hy⟩ : ∃ y : Int, 0 = y := ⟨_, rfl⟩
        rw [hy] at HY
        have o2 := o1
        have own2 := own1
        have kk2 := kk1
        clear o1 own1 kk1
        have hw1 : IntKind.i64.wrap ((p : Int) + 1) = ((p + 1 : Nat) : Int) := by rw [IntWalk.i64_in _ (by omega)]; simp
        have f2 := o2.blk.free
        have c2 := o2.blk.cell 2 rfl
        go_upto_region 6 with (fail)
        refine abs_world (fun W => Chg (fun j => j = b) W1 W ∧ Blk W b 143 #[.bool true, .slice da nd dc, .int .i64 ((p + 1 : Nat) : Int), .map (some M), av]) ⟨(Chg.refl (fun j => j = b) W1).setCell (.inl rfl) _, by simp [Blk, o2.blk.eq]⟩ ?_
        clear f2 c2
        rintro W3 ⟨k3, B3⟩
        have own3 := k3.own own2 (fun g hg => by have := own_lt own2 hg; omega)
        have M3 := k3.heap o2.map (by omega)
        have D3 := k3.slB o2.draws (fun i hi => by omega)
        have kk3 : Chg (fun j => j = b ∨ j = M ∨ u.ownBlock = some j) w W3 := kk2.trans k3 fun i _ h => .inl h
        have sz3 : B0 ≤ W3.heap.size := Nat.le_trans hB1 kk3.size
        have ltb := B3.lt
        clear k3 own2 o2 kk2
        have c3 := B3.cell 3 rfl
        have hlk : ∀ W, W.heap[M]? = some (.map (esAt es i q (.slice sa m sc)) ck) → (Instr.lookup 141 (.map (some M)) (.string q) false).run Try.prog W = .ok (.slice sa m sc) W := fun W h => run_lookup_yes h (HE.out _)
        have hl := hlk _ M3
        obtain ⟨e0, he0, hk0⟩ := HG.out (.slice sa m sc)
        have hl1 := hlk W3.drew M3
        have hl2 := hlk (W3.alloc (.cells #[.int .u8 y] 5)).drew ((heap_alloc_old W3.drew _ (by simpa using (Nat.lt_trans hMb ltb))).trans M3)
        go_region_held3 (fun w' => w'.cell? ⟨b, 3, none⟩ = some (.map (some M)))
          (((try dsimp only); first | assumption | exact Blk.cell (Blk.drew B3) 3 rfl | exact Blk.cell (Blk.alloc (Blk.drew B3) _) 3 rfl | exact Blk.cell B4 3 rfl | exact (chg_putMap _ _ _).cell (Blk.cell B4 3 rfl) (Nat.ne_of_gt hMb)))
          ((refine step_append_lies _ (by rfl) (.tmp 54) (.tmp 56) 42 (by rfl) B0 5 i5 _ 1 1 Try.underlying42 hi5 hz0 hz1 hz2 rfl (by decide) _ _ _ (by rfl) (World.ownsRow.alloc (w := W3.drew) own3 _) ⟨W3.heap.size, 0, none⟩ 1 1 [.int .u8 y] (by rfl) rfl (cell_one_new _ _ _) (by simp [Value.oneCell']) (by omega) (by unfold maxLen; omega) (by omega) (by simp; omega) (W3.heap.size + 1) (by simp) ?_; intro g cap w1 hown1 hgrow hat1 hlt1; have kg := chg_grown hgrow; have M4 := kg.heap ((heap_alloc_old W3.drew _ (by simpa using (Nat.lt_trans hMb ltb))).trans M3) (fun h => by have := own_lt own3 h; omega); have B4 := kg.blk (Blk.alloc (Blk.drew B3) _) (fun h => by have := own_lt own3 h; omega); have c4 := B4.cell 3 rfl; have hu := run_putOld (v := .slice (some ⟨g, 0, none⟩) (m + 1) cap) M4 (HE.out _) he0 hk0))
        all_goals
          have kp := chg_putMap w1 M (.map (esAt (esAt es i q (.slice sa m sc)) i q (.slice (some ⟨g, 0, none⟩) (m + 1) cap)) ck)
          have hgM : g ≠ M := by
            rcases hat1 with h | h
            · have := own_lt own3 h
              omega
            · omega
          have D5 := kp.slB (kg.slB (D3.kept (((Kept.refl W3).drew).alloc _)) (fun j hj h => by have := own_lt own3 h; omega)) (fun j hj => by omega)
          have B5 := kp.blk B4 (Nat.ne_of_gt hMb)
          have M5 := putMap_at w1 (.map (esAt (esAt es i q (.slice sa m sc)) i q (.slice (some ⟨g, 0, none⟩) (m + 1) cap)) ck) (Array.getElem?_eq_some_iff.1 M4).1
          have own5 := kp.own hown1 (fun g' hg' h => by have e : g = g' := Option.some.inj hg'; omega)
          have kk5 := (((kk3.drew).alloc _).grown hgrow (fun g' hg' => by
            rcases hat g' hg' with h | h
            · exact .inl (.inr (.inr h))
            · exact .inr h)).trans kp fun j _ h => .inr (.inl h)
          have hloc : ∀ g', (Value.slice (some ⟨g, 0, none⟩) (m + 1) cap).ownBlock = some g' → u.ownBlock = some g' ∨ w.heap.size ≤ g' := fun g' hg' => by
            obtain rfl : g = g' := Option.some.inj hg'
            rcases hat1 with h | h
            · exact hat _ h
            · right
              have := kk3.size
              omega
          have HA1 := HA.out m (by omega) hlt
          rw [show pos + (m - c) = p by omega, HY.out] at HA1
          rw [← HA1, ← bytesR_succ] at own5
          clear hl hl1 hl2 hlk hu
          go_wp2_with fail
          go_roundg (many - (m + 1))
          case measure => omega
          case rel =>
            refine ⟨t + 1, .slice (some ⟨g, 0, none⟩) (m + 1) cap, by omega, by omega, ?_, by rw [show c + (t + 1) = m + 1 by omega]; exact own5, kk5, hloc⟩
            rw [← HEE.out (.slice sa m sc) (.slice (some ⟨g, 0, none⟩) (m + 1) cap)]
            exact ⟨by rw [show pos + (t + 1) = p + 1 by omega]; exact B5, M5, hMb, D5⟩
    · have ylt : (many : Int) ≤ (m : Int) := by omega
      obtain rfl : m = many := by omega
      have own2 := own
      rcases own2.2 with ⟨_, h0⟩ | ⟨gg, cap, cur, hu, _, _, hcap, hcm, _⟩
      · omega
      · injection hu with e1 e2 e3
        subst sa; subst sc
        have ycap : (m : Int) ≤ (cap : Int) := by omega
        have zcap : cap ≠ 0 := by omega
        have ycap2 : (cap : Int) ≤ 9223372036854775807 := by unfold maxLen at hcm; omega
        go_wp2_with fail
        go_ret
        have e : pos + (m - c) = pos + t := by omega
        exact ⟨_, rfl, own, by rw [e]; exact o, k, hat⟩
end Go.Proofs.Ytnajihlhcdedgaa
