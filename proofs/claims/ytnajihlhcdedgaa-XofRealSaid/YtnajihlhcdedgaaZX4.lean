/-
  Streams by hashing: made, read.
-/
import Derived.Test.YtnajihlhcdedgaaZX2
import Derived.Test.YtnajihlhcdedgaaZi
import Derived.Laws.CopyOwn
import Derived.RegionTactic
namespace Go.Proofs.Ytnajihlhcdedgaa
open Go.RowKit
set_option linter.unusedVariables false
set_option linter.unusedSimpArgs false
attribute [local simp] blkAt_setCell blkAt_alloc blkAt_drew Obj.put_cells

/-- A slice whose cells lie outside block b reads as the bytes C 0, .. -/
structure SlN (w : World) (b : Nat) (a : Option Addr) (n cap : Nat) (C : Nat → Int) : Prop where
  at' : ∀ j, j < n → ∃ p : Addr, (∀ w', (Instr.indexAt 42 (.slice a n cap) (.int .i64 (j : Int))).run Try.prog w' = .ok (.pointer (some p)) w') ∧ w.cell? p = some (.int .u8 (C j)) ∧ p.block ≠ b
  byte : ∀ j, j < n → 0 ≤ C j ∧ C j ≤ 255
theorem SlN.touch {w w' : World} {a : Option Addr} {n cap b : Nat} {C : Nat → Int} (h : SlN w b a n cap C) (k : Touch b w w') : SlN w' b a n cap C :=
  ⟨fun j hj => let ⟨p, h1, h2, h3⟩ := h.at' j hj; ⟨p, h1, k.cell h2 h3, h3⟩, h.byte⟩
theorem SlN.of_block {w : World} {b g n cap : Nat} {l : List Int} (hl : l.length = n) (hb : ∀ x ∈ l, isByte x) (hc : ∀ j, j < n → w.cell? ⟨g, j, none⟩ = some (.int .u8 (l.getD j 0))) (hne : g ≠ b) : SlN w b (some ⟨g, 0, none⟩) n cap (fun j => l.getD j 0) :=
  ⟨fun j hj => ⟨_, fun w' => run_index_at Try.underlying42 size5 hj w', by rw [add_zero_at]; exact hc j hj, by rw [add_zero_at]; exact hne⟩, fun j hj => by
    rw [List.getD_eq_getElem?_getD, List.getElem?_eq_getElem (by omega)]
    exact hb _ (List.getElem_mem _)⟩
set_option maxRecDepth 100000 in
set_option maxHeartbeats 4000000 in
theorem k_WriteX (w : World) (b : Nat) (s : Nat → Int) (a d : Int) (p : Nat) (hp : p ≤ 168) (sl : Option Addr) (n cap : Nat) (C : Nat → Int) (hn : (n : Int) ≤ 9223372036854775807) (hS : SlN w b sl n cap C) (hB : Sp w b s p d false) :
    Calls Try.prog 65 #[.pointer (some ⟨b, 0, none⟩), .slice sl n cap] w fun e w' => e = .returned (.tuple #[]) ∧ Touch b w w' ∧ Sp w' b (takes C s p n).1 (takes C s p n).2 d false := by
  have c0 := hB.sgive
  go_enter Try.func65, Try.ntmps65
  go_wp2_with fail
  clear c0
  go_loopw [16] (fun t' wr => ∃ i : Nat, i ≤ n ∧ t' = .int .i64 i ∧ Touch b w wr ∧ Sp wr b (takes C s p i).1 (takes C s p i).2 d false) (fun t' _ => n - (intOf t').toNat)
  case atStart => exact ⟨0, Nat.zero_le _, rfl, Touch.refl _ _, hB⟩
  case round =>
    obtain ⟨i, hi, rfl, k, B⟩ := hrel
    have zi : (0 : Int) ≤ (i : Int) := by omega
    rcases Nat.lt_or_ge i n with hlt | hge
    · have yi : (i : Int) < (n : Int) := by omega
      obtain ⟨q, hix, hq, hqN⟩ := (hS.touch k).at' i hlt
      obtain ⟨c0, c1⟩ := hS.byte i hlt
      have hple := takes_le C s hp i
      have HV : Hid (takes C s p (i + 1) = (kflip (norm (takes C s p i).1 (takes C s p i).2) (normA (takes C s p i).2) (C i), normA (takes C s p i).2 + 1)) := Lib.hid rfl
      generalize (takes C s p i).1 = u at *
      generalize (takes C s p i).2 = m at *
      generalize C i = c at *
      have ca := B.sat
      have fa := B.free
      by_cases hm : m = 168
      · subst hm
        go_wp2_with fail
        refine (k_permute _ b 28 139 u _ (by omega) B).mono ?_
        rintro e W1 ⟨rfl, k1, B1⟩
        have k2 := k.trans k1
        clear k k1 ca fa B
        have ca := B1.sat
        have fa := B1.free
        go_wp2_with fail
        refine (k_flip _ b _ 0 d false 0 (by omega) c c0 c1 (B1.setAt 0)).mono ?_
        rintro e W2 ⟨rfl, k3, B2⟩
        have k4 := (k2.trans (Touch.set _ _ _ _)).trans k3
        clear k2 k3 ca fa B1
        have ca := B2.sat
        have fa := B2.free
        go_wp2_with fail
        go_roundw
        case rel => exact ⟨i + 1, by omega, by go_num, k4.trans (Touch.set _ _ _ _), by rw [HV.out]; exact B2.setAt 1⟩
        case measure => simp [intOf]; omega
      · have hm2 : (m : Int) ≠ 168 := by omega
        have hm3 : ((m : Int) == 168) = false := by simp [hm2]
        have HN : Hid (norm u m = u ∧ normA m = m) := Lib.hid ⟨if_neg hm, if_neg hm⟩
        have w1 : IntKind.i64.wrap ((m : Int) + 1) = (m : Int) + 1 := IntWalk.i64_in _ (by omega)
        go_wp2_with fail
        refine (k_flip _ b _ _ d false m (by omega) c c0 c1 B).mono ?_
        rintro e W2 ⟨rfl, k3, B2⟩
        have k4 := k.trans k3
        clear k k3 ca fa B
        have ca := B2.sat
        have fa := B2.free
        go_wp2_with fail
        go_roundw
        case rel => exact ⟨i + 1, by omega, by go_num, k4.trans (Touch.set _ _ _ _), by rw [HV.out, HN.out.1, HN.out.2]; exact B2.setAt _⟩
        case measure => simp [intOf]; omega
    · have yi : (n : Int) ≤ (i : Int) := by omega
      obtain rfl : i = n := by omega
      go_wp2_with fail
      refine bodyPost_end (v := .tuple #[]) (by simp [results, Try.results65, go_sem]) rfl ⟨rfl, k, B⟩

theorem gives_add (s : Nat → Int) (a j : Nat) : ∀ i, gives (gives s a j).1 (gives s a j).2 i = gives s a (j + i)
  | 0 => rfl
  | i + 1 => by
    show (norm (gives (gives s a j).1 (gives s a j).2 i).1 (gives (gives s a j).1 (gives s a j).2 i).2, normA (gives (gives s a j).1 (gives s a j).2 i).2 + 1) = _
    rw [gives_add s a j i]
    rfl
theorem outs_add (s : Nat → Int) (a j i : Nat) : outs (gives s a j).1 (gives s a j).2 i = outs s a (j + i) := by
  unfold outs
  rw [gives_add]

/-- What the sponge of a question gives. -/
def strm (C : Nat → Int) (n i : Nat) : Int := outs (hashS C n 1) 0 i
/-- Sponge kb stands at byte j of what the question (n bytes C) gives. -/
def RealAt (w : World) (kb : Nat) (C : Nat → Int) (n j : Nat) : Prop :=
  (j = 0 ∧ Sp w kb (takes C (fun _ => 0) 0 n).1 (takes C (fun _ => 0) 0 n).2 1 false) ∨ Sp w kb (gives (hashS C n 1) 0 j).1 (gives (hashS C n 1) 0 j).2 1 true
theorem strm_byte (C : Nat → Int) (n i : Nat) : isByte (strm C n i) := by
  unfold strm outs byteAt isByte
  omega
theorem k_ReadAt (w : World) (kb : Nat) (C : Nat → Int) (n j : Nat) (many : Nat) (hm : many ≤ 65536) (h : RealAt w kb C n j) :
    Calls Try.prog 67 #[.pointer (some ⟨kb, 0, none⟩), .int .i64 (many : Int)] w fun e w' => ∃ v, e = .returned v ∧ Touch kb w w' ∧ RealAt w' kb C n (j + many) ∧ w'.ownsRow w.heap.size 5 1 v many (bytesR many fun i => strm C n (j + i)) := by
  rcases h with ⟨rfl, h⟩ | h
  · refine (k_End_le w kb _ 1 _ (takes_le C _ (by omega) n) many hm (by omega) (by omega) h).mono ?_
    rintro e w' ⟨v, rfl, k, B, hown⟩
    refine ⟨v, rfl, k, .inr ?_, ?_⟩
    · rw [Nat.zero_add]
      exact B
    · have e : bytesR many (fun i => strm C n (0 + i)) = outsV (kend (takes C (fun _ => 0) 0 n).1 (takes C (fun _ => 0) 0 n).2 1) 0 many := by
        unfold bytesR outsV
        exact List.map_congr_left fun i _ => by simp only [Nat.zero_add]; rfl
      rw [e]
      exact hown
  · refine (k_Read_le w kb (gives (hashS C n 1) 0 j).1 1 (gives (hashS C n 1) 0 j).2 (gives_le _ (by omega) j) (Lib.hid (gives_in (kend_in _ _ _) 0 j)) many hm h).mono ?_
    rintro e w' ⟨v, rfl, k, B, hown⟩
    refine ⟨v, rfl, k, .inr ?_, ?_⟩
    · rw [gives_add] at B
      exact B
    · have e : bytesR many (fun i => strm C n (j + i)) = outsV (gives (hashS C n 1) 0 j).1 (gives (hashS C n 1) 0 j).2 many := by
        unfold bytesR outsV
        exact List.map_congr_left fun i _ => by simp only [outs_add]; rfl
      rw [e]
      exact hown

/-- A source that hashes. -/
abbrev RealSrc (w : World) (b : Nat) : Prop := Blk w b 143 #[.bool false, .slice none 0 0, .int .i64 0, .map none, .slice none 0 0]
set_option maxRecDepth 100000 in
set_option maxHeartbeats 8000000 in
theorem x_Real (w : World) : Calls Try.prog 70 #[] w fun e w' => ∃ b, e = .returned (.pointer (some ⟨b, 0, none⟩)) ∧ w.heap.size ≤ b ∧ RealSrc w' b ∧ Kept w w' := by
  go_enter Try.func70, Try.ntmps70
  go_wp2_with fail
  go_ret
  exact ⟨_, rfl, Nat.le_refl _, Blk.new _ _ _, (Kept.refl w).alloc _⟩

theorem cell_alloc_bytes (w : World) (s : ByteArray) (cap : Nat) (fz : Nat × Nat) (j : Nat) (hj : j < s.size) : (w.alloc (.cells (bytesRow s cap) 5 fz)).cell? ⟨w.heap.size, j, none⟩ = some (.int .u8 ((tb s).getD j 0)) := by
  have hj' : j < s.data.size := hj
  have h1 : (w.alloc (.cells (bytesRow s cap) 5 fz)).heap[w.heap.size]? = some (.cells (bytesRow s cap) 5 fz) := heap_alloc_new w _
  unfold World.cell?
  rw [h1]
  have hj2 : s.data[j]? = some s.data[j] := Array.getElem?_eq_getElem hj'
  simp [bytesRow, tb, Array.getElem?_append, hj, List.getD_eq_getElem?_getD, hj2]
theorem size77 : (Try.prog.info? 77).map (·.size) = some 16 := by kernel_rfl
/-- A stream that hashes, at byte j. -/
structure RealStr (w : World) (x kb pb : Nat) (Q : ByteArray) (C : Nat → Int) (n j : Nat) (skip : Int) : Prop where
  blk : Blk w x 146 #[.pointer (some ⟨pb, 0, none⟩), .pointer (some ⟨kb, 0, none⟩), .string Q, .int .i64 0, .int .i64 skip]
  at' : RealAt w kb C n j
  ne : x ≠ kb

set_option maxRecDepth 100000 in
set_option maxHeartbeats 8000000 in
theorem x_Stream_real (w : World) (pb : Nat) (hs : RealSrc w pb) (T : ByteArray) (hT : T.size ≤ 255) (U u0 u1 : Int) (hw0 : IntKind.u8.wrap U = u0) (hw1 : IntKind.u8.wrap (U / 256) = u1) (h0 : isByte u0) (h1 : isByte u1) (S : Nat → Int) (hS : Hid (∀ j, j < 16 → isByte (S j))) (ad : Addr) (n cap : Nat) (C : Nat → Int) (hn : n ≤ 65536) (hC : Hid (∀ j, j < n → w.cell? (ad.add j) = some (.int .u8 (C j)))) (HCB : Hid (∀ j, j < n → isByte (C j))) :
    Calls Try.prog 71 #[.pointer (some ⟨pb, 0, none⟩), .string T, .int .u16 U, .agg (rowF 16 (fun j => .int .u8 (S j))), .slice (some ad) n cap] w fun e w' => ∃ x kb, e = .returned (.pointer (some ⟨x, 0, none⟩)) ∧ w.heap.size ≤ x ∧ w.heap.size ≤ kb ∧ Kept w w' ∧
      RealStr w' x kb pb (strOf (qL T u0 u1 S C n)) (fun j => (qL T u0 u1 S C n).getD j 0) (19 + T.size + n) 0 0 := by
  have HQ : Hid (∀ W, Kept w W → Calls Try.prog 129 #[.string T, .int .u16 U, .agg (rowF 16 (fun j => .int .u8 (S j))), .slice (some ad) n cap] W fun e w' => e = .returned (.string (strOf (qL T u0 u1 S C n))) ∧ Kept W w') := Lib.hid fun W hk => x_question W T hT U u0 u1 hw0 hw1 h0 h1 S hS ad n cap C hn (Lib.hid fun j hj => hk.cell (hC.out j hj)) HCB
  skip
  have hby := qL_byte (n := n) hT h0 h1 hS.out HCB.out
  have hlen := qL_length T u0 u1 S C n
  have htb := tb_strOf hby
  generalize qL T u0 u1 S C n = ql at *
  have hsz : (strOf ql).size = 19 + T.size + n := by rw [← hlen]; simp [strOf, ByteArray.size]
  obtain ⟨Qs, hQs⟩ : ∃ Q, strOf ql = Q := ⟨_, rfl⟩
  rw [hQs] at HQ hsz htb ⊢
  obtain ⟨g8, hg8⟩ : ∃ g, w.heap.size = g := ⟨_, rfl⟩
  have nw8 : w.heap.size ≤ g8 := by omega
  have yT : (T.size : Int) ≤ 255 := by omega
  have yn : (n : Int) ≤ 65536 := by omega
  go_enter Try.func71, Try.ntmps71
  go_upto_region 3 with (fail)
  try simp only [hg8]
  refine abs_world (fun W => Kept w W ∧ Blk W g8 77 (rowF 16 (fun j => .int .u8 (S j)))) ⟨?_, ?_⟩ ?_
  · repeat (first | exact Kept.refl _ | (refine Kept.setCell ?_ (kept_side (by first | assumption | omega)) _) | apply Kept.alloc | apply Kept.drew)
  · simp [Blk, *] <;> omega
  clear hg8
  rintro W1 ⟨k1, B1⟩
  go_wp2_with (refine wpList_load_part 77 (.tmp 8) B1 (Nat.le_refl _) Try.underlying77 size77 rfl rfl rfl ?_)
  refine (HQ.out _ k1).mono ?_
  rintro e W2 ⟨rfl, hk⟩
  have k2 := k1.trans hk
  clear k1 B1 hk
  have hs2 := hs.kept k2
  obtain ⟨x, hx⟩ : ∃ g, W2.heap.size = g := ⟨_, rfl⟩
  have nwx : w.heap.size ≤ x := hx ▸ k2.size
  have nex : pb ≠ x := by have := hs2.lt; omega
  have nex' : x ≠ pb := nex.symm
  go_upto_region 5 with (fail)
  try simp only [hx]
  refine abs_world (fun W => Kept W2 W ∧ Blk W x 146 #[.pointer (some ⟨pb, 0, none⟩), .pointer none, .string Qs, .int .i64 0, .int .i64 0]) ⟨?_, ?_⟩ ?_
  · have nw9 : W2.heap.size ≤ x := by omega
    repeat (first | exact Kept.refl _ | (refine Kept.setCell ?_ (kept_side (by first | assumption | omega)) _) | apply Kept.alloc | apply Kept.drew)
  · simp [Blk, *] <;> omega
  clear hx
  rintro W3 ⟨hk, B3⟩
  have k3 := k2.trans hk
  have hs3 := hs2.kept hk
  clear k2 hk hs2
  have cs := hs3.cell 0 rfl
  go_wp2_with fail
  refine (k_New _ 1 (by omega) (by omega)).mono ?_
  rintro e W4 ⟨kb, rfl, hkb, B4, hk⟩
  have k4 := k3.trans hk
  have Bx := B3.kept hk
  have nek : x ≠ kb := by have := B3.lt; omega
  have nkw : w.heap.size ≤ kb := Nat.le_trans k3.size hkb
  clear k3 hk B3 hkb cs hs3
  have c0 := Bx.cell 0 rfl
  have c1 := Bx.cell 1 rfl
  have c2 := Bx.cell 2 rfl
  have fx := Bx.free
  have nx4 : x ≠ W4.heap.size := by have := Bx.lt; omega
  have hcb := fun w' => run_bytes_of_string (P := Try.prog) w' 9 42 5 Qs Try.underlying9 Try.underlying42 Try.underlying5
  go_wp2_with fail
  refine abs_calls (fun W => Kept w W ∧ Blk W x 146 #[.pointer (some ⟨pb, 0, none⟩), .pointer (some ⟨kb, 0, none⟩), .string Qs, .int .i64 0, .int .i64 0] ∧ Sp W kb (fun _ => 0) 0 1 false ∧ (∀ j, j < 19 + T.size + n → W.cell? ⟨W4.heap.size, j, none⟩ = some (.int .u8 (ql.getD j 0)))) ⟨?_, ?_, ?_, ?_⟩ ?_
  · repeat (first | exact k4 | (refine Kept.setCell ?_ (kept_side (by first | assumption | omega)) _) | apply Kept.alloc | apply Kept.drew)
  · simp [Blk, *] <;> omega
  · exact ((B4.set_other nek _).drew).alloc _
  · intro j hj
    have e : (W4.setCell ⟨x, 1, none⟩ (.pointer (some ⟨kb, 0, none⟩))).drew.heap.size = W4.heap.size := by simp
    rw [← e]
    exact (cell_alloc_bytes _ Qs _ _ j (by omega)).trans (by rw [htb])
  have neq : W4.heap.size ≠ kb := by have := B4.lt; omega
  rintro W5 ⟨k5, Bx5, B5, hcl⟩
  clear k4 Bx B4 c0 c1 c2 fx hcb
  refine (k_WriteX _ kb _ 0 1 0 (by omega) _ _ _ _ (by omega) (SlN.of_block hlen hby hcl neq) B5).mono ?_
  rintro e W6 ⟨rfl, kt, B6⟩
  have k6 := kt.kept k5 nkw
  have Bx6 := (Chg.of_touch (S := fun i => i = kb) kt rfl).blk Bx5 nek
  clear k5 Bx5 B5 kt hcl
  go_wp2_with fail
  go_ret
  exact ⟨x, kb, rfl, nwx, nkw, k6, Bx6, .inl ⟨rfl, B6⟩, nek⟩

set_option maxRecDepth 100000 in
set_option maxHeartbeats 8000000 in
theorem x_Stream_real_nil (w : World) (pb : Nat) (hs : RealSrc w pb) (T : ByteArray) (hT : T.size ≤ 255) (U u0 u1 : Int) (hw0 : IntKind.u8.wrap U = u0) (hw1 : IntKind.u8.wrap (U / 256) = u1) (h0 : isByte u0) (h1 : isByte u1) (S : Nat → Int) (hS : Hid (∀ j, j < 16 → isByte (S j))) (n : Nat) (C : Nat → Int) (hn0 : n = 0) :
    Calls Try.prog 71 #[.pointer (some ⟨pb, 0, none⟩), .string T, .int .u16 U, .agg (rowF 16 (fun j => .int .u8 (S j))), .slice none 0 0] w fun e w' => ∃ x kb, e = .returned (.pointer (some ⟨x, 0, none⟩)) ∧ w.heap.size ≤ x ∧ w.heap.size ≤ kb ∧ Kept w w' ∧
      RealStr w' x kb pb (strOf (qL T u0 u1 S C n)) (fun j => (qL T u0 u1 S C n).getD j 0) (19 + T.size + n) 0 0 := by
  have hn : n ≤ 65536 := by omega
  have HCB : Hid (∀ j, j < n → isByte (C j)) := Lib.hid fun j hj => absurd hj (by omega)
  have HQ : Hid (∀ W, Kept w W → Calls Try.prog 129 #[.string T, .int .u16 U, .agg (rowF 16 (fun j => .int .u8 (S j))), .slice none 0 0] W fun e w' => e = .returned (.string (strOf (qL T u0 u1 S C n))) ∧ Kept W w') := Lib.hid fun W hk => by subst hn0; exact x_question_nil W T hT U u0 u1 hw0 hw1 h0 h1 S hS C
  clear hn0
  have hby := qL_byte (n := n) hT h0 h1 hS.out HCB.out
  have hlen := qL_length T u0 u1 S C n
  have htb := tb_strOf hby
  generalize qL T u0 u1 S C n = ql at *
  have hsz : (strOf ql).size = 19 + T.size + n := by rw [← hlen]; simp [strOf, ByteArray.size]
  obtain ⟨Qs, hQs⟩ : ∃ Q, strOf ql = Q := ⟨_, rfl⟩
  rw [hQs] at HQ hsz htb ⊢
  obtain ⟨g8, hg8⟩ : ∃ g, w.heap.size = g := ⟨_, rfl⟩
  have nw8 : w.heap.size ≤ g8 := by omega
  have yT : (T.size : Int) ≤ 255 := by omega
  have yn : (n : Int) ≤ 65536 := by omega
  go_enter Try.func71, Try.ntmps71
  go_upto_region 3 with (fail)
  try simp only [hg8]
  refine abs_world (fun W => Kept w W ∧ Blk W g8 77 (rowF 16 (fun j => .int .u8 (S j)))) ⟨?_, ?_⟩ ?_
  · repeat (first | exact Kept.refl _ | (refine Kept.setCell ?_ (kept_side (by first | assumption | omega)) _) | apply Kept.alloc | apply Kept.drew)
  · simp [Blk, *] <;> omega
  clear hg8
  rintro W1 ⟨k1, B1⟩
  go_wp2_with (refine wpList_load_part 77 (.tmp 8) B1 (Nat.le_refl _) Try.underlying77 size77 rfl rfl rfl ?_)
  refine (HQ.out _ k1).mono ?_
  rintro e W2 ⟨rfl, hk⟩
  have k2 := k1.trans hk
  clear k1 B1 hk
  have hs2 := hs.kept k2
  obtain ⟨x, hx⟩ : ∃ g, W2.heap.size = g := ⟨_, rfl⟩
  have nwx : w.heap.size ≤ x := hx ▸ k2.size
  have nex : pb ≠ x := by have := hs2.lt; omega
  have nex' : x ≠ pb := nex.symm
  go_upto_region 5 with (fail)
  try simp only [hx]
  refine abs_world (fun W => Kept W2 W ∧ Blk W x 146 #[.pointer (some ⟨pb, 0, none⟩), .pointer none, .string Qs, .int .i64 0, .int .i64 0]) ⟨?_, ?_⟩ ?_
  · have nw9 : W2.heap.size ≤ x := by omega
    repeat (first | exact Kept.refl _ | (refine Kept.setCell ?_ (kept_side (by first | assumption | omega)) _) | apply Kept.alloc | apply Kept.drew)
  · simp [Blk, *] <;> omega
  clear hx
  rintro W3 ⟨hk, B3⟩
  have k3 := k2.trans hk
  have hs3 := hs2.kept hk
  clear k2 hk hs2
  have cs := hs3.cell 0 rfl
  go_wp2_with fail
  refine (k_New _ 1 (by omega) (by omega)).mono ?_
  rintro e W4 ⟨kb, rfl, hkb, B4, hk⟩
  have k4 := k3.trans hk
  have Bx := B3.kept hk
  have nek : x ≠ kb := by have := B3.lt; omega
  have nkw : w.heap.size ≤ kb := Nat.le_trans k3.size hkb
  clear k3 hk B3 hkb cs hs3
  have c0 := Bx.cell 0 rfl
  have c1 := Bx.cell 1 rfl
  have c2 := Bx.cell 2 rfl
  have fx := Bx.free
  have nx4 : x ≠ W4.heap.size := by have := Bx.lt; omega
  have hcb := fun w' => run_bytes_of_string (P := Try.prog) w' 9 42 5 Qs Try.underlying9 Try.underlying42 Try.underlying5
  go_wp2_with fail
  refine abs_calls (fun W => Kept w W ∧ Blk W x 146 #[.pointer (some ⟨pb, 0, none⟩), .pointer (some ⟨kb, 0, none⟩), .string Qs, .int .i64 0, .int .i64 0] ∧ Sp W kb (fun _ => 0) 0 1 false ∧ (∀ j, j < 19 + T.size + n → W.cell? ⟨W4.heap.size, j, none⟩ = some (.int .u8 (ql.getD j 0)))) ⟨?_, ?_, ?_, ?_⟩ ?_
  · repeat (first | exact k4 | (refine Kept.setCell ?_ (kept_side (by first | assumption | omega)) _) | apply Kept.alloc | apply Kept.drew)
  · simp [Blk, *] <;> omega
  · exact ((B4.set_other nek _).drew).alloc _
  · intro j hj
    have e : (W4.setCell ⟨x, 1, none⟩ (.pointer (some ⟨kb, 0, none⟩))).drew.heap.size = W4.heap.size := by simp
    rw [← e]
    exact (cell_alloc_bytes _ Qs _ _ j (by omega)).trans (by rw [htb])
  have neq : W4.heap.size ≠ kb := by have := B4.lt; omega
  rintro W5 ⟨k5, Bx5, B5, hcl⟩
  clear k4 Bx B4 c0 c1 c2 fx hcb
  refine (k_WriteX _ kb _ 0 1 0 (by omega) _ _ _ _ (by omega) (SlN.of_block hlen hby hcl neq) B5).mono ?_
  rintro e W6 ⟨rfl, kt, B6⟩
  have k6 := kt.kept k5 nkw
  have Bx6 := (Chg.of_touch (S := fun i => i = kb) kt rfl).blk Bx5 nek
  clear k5 Bx5 B5 kt hcl
  go_wp2_with fail
  go_ret
  exact ⟨x, kb, rfl, nwx, nkw, k6, Bx6, .inl ⟨rfl, B6⟩, nek⟩

/-- What a question is bound to. -/
def Bnd (w : World) (sl : Option Addr) (n cap : Nat) (C : Nat → Int) : Prop := (sl = none ∧ n = 0 ∧ cap = 0) ∨ ∃ ad : Addr, sl = some ad ∧ ∀ j, j < n → w.cell? (ad.add j) = some (.int .u8 (C j))
theorem Bnd.kept {w w' : World} {sl : Option Addr} {n cap : Nat} {C : Nat → Int} (h : Bnd w sl n cap C) (k : Kept w w') : Bnd w' sl n cap C := by
  rcases h with h | ⟨ad, h1, h2⟩
  · exact .inl h
  · exact .inr ⟨ad, h1, fun j hj => k.cell (h2 j hj)⟩
/-- A stream that hashes. -/
theorem x_Stream_R (w : World) (pb : Nat) (hs : RealSrc w pb) (T : ByteArray) (hT : T.size ≤ 255) (U u0 u1 : Int) (hw0 : IntKind.u8.wrap U = u0) (hw1 : IntKind.u8.wrap (U / 256) = u1) (h0 : isByte u0) (h1 : isByte u1) (S : Nat → Int) (hS : Hid (∀ j, j < 16 → isByte (S j)))
    (sl : Option Addr) (n cap : Nat) (C : Nat → Int) (hn : n ≤ 65536) (hb : Bnd w sl n cap C) (HCB : Hid (∀ j, j < n → isByte (C j))) :
    Calls Try.prog 71 #[.pointer (some ⟨pb, 0, none⟩), .string T, .int .u16 U, .agg (rowF 16 (fun j => .int .u8 (S j))), .slice sl n cap] w fun e w' => ∃ x kb, e = .returned (.pointer (some ⟨x, 0, none⟩)) ∧ w.heap.size ≤ x ∧ w.heap.size ≤ kb ∧ Kept w w' ∧
      RealStr w' x kb pb (strOf (qL T u0 u1 S C n)) (fun j => (qL T u0 u1 S C n).getD j 0) (19 + T.size + n) 0 0 := by
  rcases hb with ⟨rfl, rfl, rfl⟩ | ⟨ad, rfl, hc⟩
  · exact x_Stream_real_nil w pb hs T hT U u0 u1 hw0 hw1 h0 h1 S hS 0 C rfl
  · exact x_Stream_real w pb hs T hT U u0 u1 hw0 hw1 h0 h1 S hS ad n cap C hn (Lib.hid hc) HCB
end Go.Proofs.Ytnajihlhcdedgaa
