/-
  The next bytes of an oracle's stream.
-/
import Derived.Test.YtnajihlhcdedgaaZX8
namespace Go.Proofs.Ytnajihlhcdedgaa
open Go.RowKit
set_option linter.unusedVariables false
set_option linter.unusedSimpArgs false
attribute [local simp] blkAt_setCell blkAt_alloc blkAt_drew Obj.put_cells

theorem own_at {w : World} {base n : Nat} {v : Value} {C : Nat → Int} (h : w.ownsRow base 5 1 v n (bytesR n C)) (hn : 0 < n) : ∃ g cap, v = .slice (some ⟨g, 0, none⟩) n cap ∧ n ≤ cap ∧ (cap : Int) ≤ 9223372036854775807 ∧ base ≤ g ∧ g < w.heap.size ∧ ∀ j, j < n → w.cell? ⟨g, j, none⟩ = some (.int .u8 (C j)) := by
  rcases h.2 with ⟨_, h0⟩ | ⟨g, cap, cur, rfl, hb, hg, hc, hm, _⟩
  · omega
  · refine ⟨g, cap, rfl, hc, by unfold maxLen at hm; omega, hb, (own_lt h (g := g) rfl).2, fun j hj => ?_⟩
    have := h.cells (g := g) rfl j (.int .u8 (C j)) (by simp [bytesR, hj])
    rw [add_zero_at] at this
    exact this
set_option maxRecDepth 100000 in
set_option maxHeartbeats 2000000 in
theorem x_Next_o (w : World) (x b M : Nat) (q : ByteArray) (xat : Nat) (skip : Int) (hx : OStr w x b q xat skip) (da : Option Addr) (nd dc : Nat) (D : Nat → Int) (pos : Nat) (es : Array MapEntry) (ck : Nat) (av : Value) (ho : Orc w b M da nd dc D pos es ck av)
    (i : Nat) (u : Value) (hf : Instr.findNow .string (.string q) es.toList 0 = some (some (i, u))) (B0 c many : Nat) (A : Nat → Int) (hown : w.ownsRow B0 5 1 u c (bytesR c A)) (hB0 : b < B0) (hB1 : B0 ≤ w.heap.size) (hc : c ≤ xat + many) (hm0 : 0 < many) (hm : many ≤ 65536) (hxm : xat + many ≤ 1000000) (hp : pos ≤ 1000000) (hnd : nd ≤ 1000000)
    (HA : Hid (∀ j, c ≤ j → j < xat + many → A j = drawn D nd (pos + (j - c)))) (hxb : x ≠ b) (hxM : M < x) (hxu : u.ownBlock ≠ some x) :
    Calls Try.prog 72 #[.pointer (some ⟨x, 0, none⟩), .int .i64 (many : Int)] w fun e w' => ∃ v u', e = .returned v ∧ w'.ownsRow w.heap.size 5 1 v many (bytesR many fun j => A (xat + j)) ∧ OStr w' x b q (xat + many) skip ∧ Orc w' b M da nd dc D (pos + (xat + many - c)) (esAt es i q u') ck av ∧
      w'.ownsRow B0 5 1 u' (xat + many) (bytesR (xat + many) A) ∧ Chg (fun j => j = b ∨ j = M ∨ j = x ∨ u.ownBlock = some j) w w' ∧ (∀ g, u'.ownBlock = some g → u.ownBlock = some g ∨ w.heap.size ≤ g) ∧ (∀ g g', v.ownBlock = some g → u'.ownBlock = some g' → g' < g) := by
  have zm : (0 : Int) ≤ (many : Int) := by omega
  have ym : (many : Int) ≤ 65536 := by omega
  have c0 := hx.cell 0 rfl
  have c1 := hx.cell 1 rfl
  have c2 := hx.cell 2 rfl
  have c3 := hx.cell 3 rfl
  have ltx := hx.lt
  have hw1 : IntKind.i64.wrap ((xat : Int) + (many : Int)) = ((xat + many : Nat) : Int) := by rw [IntWalk.i64_in _ (by omega)]; simp
  obtain ⟨X, hX⟩ : ∃ X, xat + many = X := ⟨_, rfl⟩
  rw [hX] at hw1 hc hxm HA ⊢
  go_enter Try.func72, Try.ntmps72
  go_upto_region 5 with (fail)
  try simp only [List.append_eq, List.cons_append, List.nil_append]
  refine wp_region_wl (fun _ => oneMean 5 #[]) 14 (by kernel_rfl) (by as_aux_lemma => kernel_rfl) _ rfl _ rfl _ _ rfl rfl (fun k0 Lq hLq => ?_)
  dsimp only [List.map_cons, List.map_nil, List.take_succ_cons, List.take_zero, List.drop_succ_cons, List.drop_zero] at hLq ⊢
  repeat (first
    | (refine WL.skip rfl rfl ?_; dsimp only [List.set_cons_zero, List.set_cons_succ])
    | (refine WL.ex rfl rfl (by kernel_rfl) rfl ?_; apply Exists.intro; refine And.intro (fun w' hk => ?_) (And.intro ?_ ?_); (focus (have q0 := hk.cell c0; have q2 := hk.cell c2; have q3 := hk.cell c3; clear hk; go_simp; exact rfl)); (focus (exact rfl)); dsimp only [List.set_cons_zero, List.set_cons_succ]))
  refine WL.nil (hLq _ ?_)
  clear hLq
  intro a'' V hk hra
  obtain rfl := hra.mark0 (by kernel_rfl)
  clear hra
  try simp only [List.drop_succ_cons, List.drop_zero, List.drop_nil]
  have hxV := hx.kept hk
  have HM := Lib.hid (x_more V b M da nd dc D pos es ck av (ho.kept hk) q i u hf B0 c X A (ownsRow_kept hown hk) hB0 (Nat.le_trans hB1 hk.size) hc (by omega) hxm hp hnd HA)
  clear c0 c1 c2 c3
  go_wp2_with fail
  refine HM.out.mono ?_
  rintro e W1 ⟨u', rfl, own1, o1, k1, hat⟩
  obtain ⟨ug, uc, rfl, huc, huc63, hug, hugl, hcl⟩ := own_at own1 (by omega)
  have hx1 := k1.blk hxV (by rintro (h | h | h); exact hxb h; omega; exact hxu h)
  have kk1 : Chg (fun j => j = b ∨ j = M ∨ u.ownBlock = some j) w W1 := (Chg.of_kept hk).trans k1 fun _ _ h => h
  have own0 : (W1.alloc (.cells #[] 5)).ownsRow W1.heap.size 5 1 (.slice (some ⟨W1.heap.size, 0, none⟩) 0 0) 0 [] := World.ownsRow_made W1 #[] 0 (Nat.le_refl _) (by decide) rfl
  have ltx1 := hx1.lt
  have c3 := hx1.cell 3 rfl
  have d3 := (hx1.alloc (.cells #[] 5)).cell 3 rfl
  have y1 : (xat : Int) ≤ (X : Int) := by omega
  have y2 : (X : Int) ≤ (uc : Int) := by omega
  have y3 : (0 : Int) ≤ (xat : Int) := by omega
  have y4 : uc - xat ≠ 0 := by omega
  have y5 : uc ≠ xat := by omega
  have y6 : uc ≠ 0 := by omega
  have hxx : X - xat = many := by omega
  clear HM
  go_upto_region 7 with (at_builtin; refine app_bytes own0 ug xat many _ ((List.range many).map fun j => Value.int .u8 (A (xat + j))) (by simp) (one8x many _) (by intro j v hj; exact ((Kept.refl W1).alloc _).cell (cellsN (fun j hj => hcl (xat + j) (by omega)) j v hj)) (by omega) (by simp) (.tmp 43) (.tmp 49) rfl rfl rfl rfl ?_; intro v2 W2 own2 gr2 at2)
  rw [Nat.zero_add, List.nil_append] at own2
  have k2 := grown_kept ((Kept.refl W1).alloc _) own0 gr2 (Nat.le_refl _)
  have hx2 := hx1.kept k2
  have o2 := o1.kept k2
  have own12 := ownsRow_kept own1 k2
  have kk2 := kk1.trans_kept k2
  have hMb := ho.lt
  clear own0 gr2 at2 c3 d3
  have c3 := hx2.cell 3 rfl
  have f3 := hx2.free
  go_wp2_with fail
  go_ret
  have ks := chg_set W2 x 3 (.int .i64 (X : Int))
  have hux : ug ≠ x := fun h => by
    subst h
    rcases hat ug rfl with h | h
    · exact hxu h
    · have := hxV.lt
      omega
  have hsz1 := kk1.size
  refine ⟨v2, .slice (some ⟨ug, 0, none⟩) X uc, rfl, ks.own (ownsRow_base own2 hsz1) (fun g hg h => by have := own_lt own2 hg; omega), by show blkAt _ _ = _; rw [blkAt_setCell, if_pos rfl, hx2.eq]; rfl, o2.chg ks (fun h => hxb h.symm) (fun j hj h => by omega), ks.own own12 (fun g hg h => hux ((Option.some.inj hg).trans h)), ?_, ?_, ?_⟩
  · refine (kk2.mono (T := fun j => j = b ∨ j = M ∨ j = x ∨ u.ownBlock = some j) fun j _ h => ?_).trans ks fun j _ h => .inr (.inr (.inl h))
    rcases h with h | h | h
    · exact .inl h
    · exact .inr (.inl h)
    · exact .inr (.inr (.inr h))
  · intro g hg
    rcases hat g hg with h | h
    · exact .inl h
    · exact .inr (Nat.le_trans hk.size h)
  · intro g g' hg hg'
    have h1 := own_lt own2 hg
    have h2 : ug = g' := Option.some.inj hg'
    omega
end Go.Proofs.Ytnajihlhcdedgaa
