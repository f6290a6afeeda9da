/-
  FieldVecs: for every list of elements, every bytes and every count the law returns true.
-/
import Derived.Test.YtnajihlhcdedgaaZFVL
import Derived.Test.YtnajihlhcdedgaaZg
import Derived.Test.YtnajihlhcdedgaaZd
namespace Go.Proofs.Ytnajihlhcdedgaa
open Go.RowKit
set_option linter.unusedVariables false
set_option linter.unusedSimpArgs false

set_option maxRecDepth 100000 in
set_option maxHeartbeats 4000000 in
theorem field_vecs_longA (u many : Int) (a : Option Addr) (n cap : Nat) (c : Option Addr) (m capc : Nat) (h : (30 : Int) < (n : Int)) (w : World) :
    Calls Try.prog 23 #[.int .u8 u, .slice a n cap, .slice c m capc, .int .i64 many] w fun e w' => e = .returned (.bool true) ∧ Kept w w' := by
  have HA := Lib.hid f_Awake
  go_enter Try.func23, Try.ntmps23
  go_wp2_with fail
  refine (HA.out _).mono ?_
  rintro e W1 ⟨rfl, k1⟩
  go_wp2_with fail
  go_ret
  exact ⟨rfl, k1⟩

set_option maxRecDepth 100000 in
set_option maxHeartbeats 4000000 in
theorem field_vecs_longB (u many : Int) (a : Option Addr) (n cap : Nat) (c : Option Addr) (m capc : Nat) (h : (n : Int) ≤ 30) (h2 : (400 : Int) < (m : Int)) (w : World) :
    Calls Try.prog 23 #[.int .u8 u, .slice a n cap, .slice c m capc, .int .i64 many] w fun e w' => e = .returned (.bool true) ∧ Kept w w' := by
  have HA := Lib.hid f_Awake
  go_enter Try.func23, Try.ntmps23
  go_wp2_with fail
  refine (HA.out _).mono ?_
  rintro e W1 ⟨rfl, k1⟩
  go_wp2_with fail
  go_ret
  exact ⟨rfl, k1⟩

/-- The i-th piece of the bytes. -/
def chunk (C : Nat → Int) (L i : Nat) : List Int := (List.range L).map fun j => C (i * L + j)
theorem chunk_length (C : Nat → Int) (L i : Nat) : (chunk C L i).length = L := by simp [chunk]
theorem chunk_getD (C : Nat → Int) (L i : Nat) {j : Nat} (hj : j < L) : (chunk C L i).getD j 0 = C (i * L + j) := by
  unfold chunk
  rw [List.getD_eq_getElem?_getD, List.getElem?_map, List.getElem?_range hj]
  rfl
theorem chunk_byte {C : Nat → Int} {m K L i : Nat} (hb : ∀ j, j < m → 0 ≤ C j ∧ C j ≤ 255) (hm : m = K * L) (hi : i < K) : ∀ x ∈ chunk C L i, isByte x := by
  intro x hx
  obtain ⟨j, hj, rfl⟩ := List.mem_map.1 hx
  have hj := List.mem_range.1 hj
  refine hb _ ?_
  have h3 : (i + 1) * L ≤ K * L := Nat.mul_le_mul_right L hi
  rw [Nat.succ_mul] at h3
  omega
theorem chunk_in {m K L i j : Nat} (hm : m = K * L) (hi : i < K) (hj : j < L) : i * L + j < m := by
  have h3 : (i + 1) * L ≤ K * L := Nat.mul_le_mul_right L hi
  rw [Nat.succ_mul] at h3
  omega
theorem first_bad (p : Nat → Prop) [DecidablePred p] : ∀ K : Nat, ∃ z, z ≤ K ∧ (∀ i, i < z → p i) ∧ (z = K ∨ ¬ p z)
  | 0 => ⟨0, Nat.le_refl _, fun i hi => absurd hi (Nat.not_lt_zero _), .inl rfl⟩
  | K + 1 => by
    obtain ⟨z, hz, h1, h2⟩ := first_bad p K
    rcases h2 with rfl | h2
    · by_cases h : p z
      · refine ⟨z + 1, Nat.le_refl _, fun i hi => ?_, .inl rfl⟩
        rcases Nat.lt_or_ge i z with h3 | h3
        · exact h1 i h3
        · obtain rfl : i = z := by omega
          exact h
      · exact ⟨z, Nat.le_succ _, h1, .inr h⟩
    · exact ⟨z, by omega, h1, .inr h2⟩

section
variable {f : Int} (hf : isF f) {c : Option Addr} {m capc g o L : Nat} (hL : (L : Int) = 8 * f) (hmc : m ≤ capc)
  {C : Nat → Int} (hb : ∀ j, j < m → 0 ≤ C j ∧ C j ≤ 255) {w : World} (hcell : ∀ j, j < m → w.cell? ⟨g, o + j, none⟩ = some (.int .u8 (C j)))
include hf hL hb hcell
theorem take_chunk {K i : Nat} (hm : m = K * L) (hi : i < K) (w' : World) (k : Kept w w') (cc : Nat) (hcc : L ≤ cc) :
    Calls Try.prog 97 #[.int .u8 f, .slice (some ⟨g, o + i * L, none⟩) L cc] w' fun e w'' => e = .returned (if leVal (chunk C L i) < rP f then .tuple #[E (leVal (chunk C L i)), .int .i64 0] else .tuple #[E 0, .int .i64 7]) ∧ Kept w' w'' := by
  have hl := chunk_length C L i
  have h := f_Take hf (bs := chunk C L i) (by rw [hl]; exact hL) (chunk_byte hb hm hi) w' (g := g) (o := o + i * L) (cap := cc) (by rw [hl]; exact hcc) (fun j hj => by
    rw [hl] at hj
    rw [chunk_getD C L i hj, Nat.add_assoc]
    exact k.cell (hcell _ (chunk_in hm hi hj)))
  rw [hl] at h
  exact h
theorem refTake_chunk {K i : Nat} (hm : m = K * L) (hi : i < K) (hL0 : 0 < L) (w' : World) (k : Kept w w') (cc : Nat) :
    Calls Try.prog 44 #[.int .i64 f, .slice (some ⟨g, o + i * L, none⟩) L cc] w' fun e w'' => e = .returned (.tuple #[if leVal (chunk C L i) < rP f then E (leVal (chunk C L i)) else E 0, .bool (decide (leVal (chunk C L i) < rP f))]) ∧ Kept w' w'' := by
  have hl := chunk_length C L i
  have h16 : L ≤ 16 := by unfold isF at hf; omega
  have hg := block_lt_of_cell (k.cell (hcell _ (chunk_in hm hi hL0)))
  have h := ref_Take hf (bs := chunk C L i) (by rw [hl]; exact h16) (chunk_byte hb hm hi) w' (b := g) (o := o + i * L) (cap := cc) hg (fun j hj => by
    rw [hl] at hj
    rw [chunk_getD C L i hj, Nat.add_assoc]
    exact k.cell (hcell _ (chunk_in hm hi hj)))
  rw [hl] at h
  exact h
include hmc
theorem vmode (hcap63 : (capc : Int) ≤ 9223372036854775807) (hc : m = 0 ∨ c = some ⟨g, o, none⟩) (kv : Int) : VMode w f c m capc g o L kv := by
  have hV := f_Valid hf
  have hS := f_Size hf
  rw [← hL] at hS
  have hL0 : 0 < L := by unfold isF at hf; omega
  have h16 : L ≤ 16 := by unfold isF at hf; omega
  by_cases h0 : kv < 0
  · exact .inl ⟨decide_eq_true h0, fun w' _ => f_TakeVec_neg f hV c m capc kv h0 w'⟩
  by_cases h1 : 4096 < kv
  · exact .inr (.inl ⟨decide_eq_false h0, decide_eq_true h1, fun w' _ => f_TakeVec_big f hV c m capc kv h1 w'⟩)
  obtain ⟨K, rfl⟩ : ∃ K : Nat, kv = (K : Int) := ⟨kv.toNat, by omega⟩
  have hK : K ≤ 4096 := by omega
  have hKL : K * L ≤ 4096 * 16 := Nat.mul_le_mul hK h16
  have eKL : (K : Int) * (L : Int) = ((K * L : Nat) : Int) := by simp
  have hw : IntKind.i64.wrap ((K : Int) * (L : Int)) = ((K * L : Nat) : Int) := by rw [eKL]; exact IntWalk.i64_in _ (by omega)
  by_cases hm : m = K * L
  · obtain ⟨z, hz, hyes, hno⟩ := first_bad (fun i => leVal (chunk C L i) < rP f) K
    have HT : Hid (∀ i, i < z → ∀ w' cc, Kept w w' → L ≤ cc → Calls Try.prog 97 #[.int .u8 f, .slice (some ⟨g, o + i * L, none⟩) L cc] w' fun e w'' => e = .returned (.tuple #[.agg #[.int .u64 (leVal (chunk C L i) % 18446744073709551616), .int .u64 (leVal (chunk C L i) / 18446744073709551616)], .int .i64 0]) ∧ Kept w' w'') := Lib.hid fun i hi w' cc k hcc => by
      have h := take_chunk hf hL hb hcell hm (Nat.lt_of_lt_of_le hi hz) w' k cc hcc
      rw [if_pos (hyes i hi)] at h
      exact h
    refine .inr (.inr (.inr ⟨K, z, fun i => leVal (chunk C L i) % 18446744073709551616, fun i => leVal (chunk C L i) / 18446744073709551616, rfl, hK, hm, hz, ?_, Lib.hid fun i hi w' cc k => ?_, ?_⟩))
    · rcases Nat.eq_or_lt_of_le hz with h | hlt
      · exact .inl h
      · have hno' : ¬ leVal (chunk C L z) < rP f := hno.resolve_left (by omega)
        refine .inr (Lib.hid fun w' cc k => ?_)
        have h := refTake_chunk hf hL hb hcell hm hlt hL0 w' k cc
        rw [if_neg hno', decide_eq_false hno', E_nought] at h
        exact h
    · have h := refTake_chunk hf hL hb hcell hm (Nat.lt_of_lt_of_le hi hz) hL0 w' k cc
      rw [if_pos (hyes i hi), decide_eq_true (hyes i hi)] at h
      exact h
    · intro w' k
      rw [← hm] at hw
      rcases Nat.eq_or_lt_of_le hz with h | hlt
      · subst h
        simp only [eq_self, if_true]
        exact f_TakeVec_ok w' f hV L hL0 h16 hS c m capc g o z hK (Lib.hid hm) hc hmc hcap63 hw _ _ (Lib.hid fun i hi W cc kk hcc => HT.out i hi W cc (k.trans kk) hcc)
      · have hno' : ¬ leVal (chunk C L z) < rP f := hno.resolve_left (by omega)
        simp only [if_neg (Nat.ne_of_lt hlt)]
        refine (f_TakeVec_bad w' f hV L hL0 h16 hS c m capc g o K hK (Lib.hid hm) hc hmc hcap63 hw z hlt _ _ (Lib.hid fun i hi W cc kk hcc => HT.out i hi W cc (k.trans kk) hcc) (Lib.hid fun W cc kk hcc => ?_)).mono fun e w'' ⟨he, hk⟩ => ⟨_, he, hk, World.ownsRow_nil _ _ _ _⟩
        have h := take_chunk hf hL hb hcell hm hlt W (k.trans kk) cc hcc
        rw [if_neg hno', E_nought] at h
        exact h
  · have hne : ((m : Int) != ((K * L : Nat) : Int)) = true := by
      simp only [bne_iff_ne, ne_eq]
      omega
    exact .inr (.inr (.inl ⟨decide_eq_false h0, decide_eq_false h1, ⟨_, hw, hne⟩, fun w' _ => f_TakeVec_size f hV L _ hS c m capc K (by omega) (by omega) hw hne w'⟩))
theorem tmode (hc : m = 0 ∨ c = some ⟨g, o, none⟩) : TMode w f c m capc L := by
  have hV := f_Valid hf
  have hS := f_Size hf
  rw [← hL] at hS
  have hL0 : 0 < L := by unfold isF at hf; omega
  by_cases hm : m = L
  · have hm1 : m = 1 * L := by omega
    obtain rfl : c = some ⟨g, o, none⟩ := hc.resolve_left (by omega)
    refine .inr ⟨hm, ?_⟩
    have h1 := fun w' k => take_chunk hf hL hb hcell hm1 (i := 0) (by omega) w' k capc (by omega)
    have h2 := fun w' k => refTake_chunk hf hL hb hcell hm1 (i := 0) (by omega) hL0 w' k capc
    rw [Nat.zero_mul, Nat.add_zero, ← hm] at h1 h2
    by_cases hlt : leVal (chunk C L 0) < rP f
    · refine ⟨leVal (chunk C m 0) % 18446744073709551616, leVal (chunk C m 0) / 18446744073709551616, 0, true, by decide, fun w' k => ?_, fun w' k => ?_⟩
      · have h := h1 w' k
        rw [← hm] at hlt
        rw [if_pos hlt] at h
        exact h
      · have h := h2 w' k
        rw [← hm] at hlt
        rw [if_pos hlt, decide_eq_true hlt] at h
        exact h
    · refine ⟨0, 0, 7, false, by decide, fun w' k => ?_, fun w' k => ?_⟩
      · have h := h1 w' k
        rw [← hm] at hlt
        rw [if_neg hlt, E_nought] at h
        exact h
      · have h := h2 w' k
        rw [← hm] at hlt
        rw [if_neg hlt, decide_eq_false hlt, E_nought] at h
        exact h
  · have hne : ((m : Int) != (L : Int)) = true := by
      simp only [bne_iff_ne, ne_eq]
      omega
    exact .inl ⟨hne, f_Take_size f hV L hS c m capc hne⟩
end

theorem leVal_leBytes_rOf {f : Int} (hf : isF f) {L : Nat} (hL : (L : Int) = 8 * f) (x : Int) : leVal (leBytes L (rOf f x)) = rOf f x := by
  refine leVal_leBytes L _ (rOf_lo f x) ?_
  have h := rOf_lt f x
  rcases hf with rfl | rfl
  · obtain rfl : L = 8 := by omega
    rw [rP1] at h
    unfold gP at h
    have : (256 : Int) ^ 8 = 18446744073709551616 := by decide
    omega
  · obtain rfl : L = 16 := by omega
    rw [rP2] at h
    unfold wP at h
    have : (256 : Int) ^ 16 = 340282366920938463463374607431768211456 := by decide
    omega
theorem bytes_at (L : Nat) (x : Int) : bytesV (leBytes L x) = (List.range L).map fun c => Value.int .u8 ((leBytes L x).getD c 0) := by
  have h := row_bytes (bs := leBytes L x) (n := L) (length_leBytes L x)
  have h2 := congrArg Array.toList h
  simpa [rowF] using h2
theorem owned_shape {w : World} {base e n : Nat} {v : Value} {xs : List Value} (h : w.ownsRow base e 1 v n xs) : ∃ (a : Option Addr) (cap g : Nat), v = .slice a n cap ∧ (n = 0 ∨ a = some ⟨g, 0, none⟩) ∧ n ≤ cap ∧ (cap : Int) ≤ 9223372036854775807 ∧ (∀ j u, xs[j]? = some u → w.cell? ⟨g, 0 + j, none⟩ = some u) := by
  rcases h.2 with ⟨rfl, rfl⟩ | ⟨g, cap, cur, rfl, _, _, hnc, hm, _⟩
  · refine ⟨none, 0, 0, rfl, .inl rfl, Nat.le_refl _, by omega, fun j u hj => ?_⟩
    have hl := h.1
    rw [Nat.zero_mul] at hl
    rw [List.eq_nil_of_length_eq_zero hl] at hj
    simp at hj
  · refine ⟨_, cap, g, rfl, .inr rfl, hnc, by unfold maxLen at hm; omega, fun j u hj => ?_⟩
    have := h.cells (g := g) rfl j u hj
    rwa [Addr.add_lit] at this

theorem fieldVecs_E (u : Int) (u0 : 0 ≤ u) (u1 : u ≤ 255) (a : Option Addr) (n cap : Nat) (x : Nat → Int) (c : Option Addr) (m capc : Nat) (C : Nat → Int) (many : Int) (w : World)
    (hn63 : (n : Int) ≤ 9223372036854775807) (hx : ∀ j, j < n → is128 (x j)) (hA : SlX w a n cap w.heap.size x)
    (hm63 : (m : Int) ≤ 9223372036854775807) (hmc : m ≤ capc) (hcap63 : (capc : Int) ≤ 9223372036854775807) (hb : ∀ j, j < m → 0 ≤ C j ∧ C j ≤ 255) (g o : Nat) (hc : m = 0 ∨ c = some ⟨g, o, none⟩) (hcell : ∀ j, j < m → w.cell? ⟨g, o + j, none⟩ = some (.int .u8 (C j))) :
    Calls Try.prog 23 #[.int .u8 u, .slice a n cap, .slice c m capc, .int .i64 many] w fun e w' => e = .returned (.bool true) ∧ Kept w w' := by
  by_cases hn : 30 < n
  · exact field_vecs_longA u many a n cap c m capc (by omega) w
  by_cases hm : 400 < m
  · exact field_vecs_longB u many a n cap c m capc (by omega) (by omega) w
  have hf := isF_fOf u0
  have hF := f_F u0 u1
  have wf : IntKind.i64.wrap (fOf u) = fOf u := IntWalk.i64_in _ (by unfold isF at hf; omega)
  generalize fOf u = f at *
  obtain ⟨L, hL⟩ : ∃ L : Nat, (L : Int) = 8 * f := ⟨(8 * f).toNat, by unfold isF at hf; omega⟩
  have hL0 : 0 < L := by unfold isF at hf; omega
  have h16 : L ≤ 16 := by unfold isF at hf; omega
  have hV := f_Valid hf
  have hS := f_Size hf
  rw [← hL] at hS
  have hLt : (8 * f).toNat = L := by omega
  have ym : (m : Int) ≤ 400 := by omega
  have hq : IntKind.i64.wrap ((m : Int) / (L : Int)) = (m : Int) / (L : Int) := by
    have h1 : (m : Int) / (L : Int) = ((m / L : Nat) : Int) := by simp
    have h2 : m / L ≤ m := Nat.div_le_self _ _
    rw [h1]
    generalize m / L = d at h2
    exact IntWalk.i64_in _ (by omega)
  let bt : Nat → Nat → Int := fun j i => (leBytes L (rOf f (x j))).getD i 0
  have hbt : ∀ j i, 0 ≤ bt j i ∧ bt j i ≤ 255 := fun j i => by
    show 0 ≤ (leBytes L (rOf f (x j))).getD i 0 ∧ (leBytes L (rOf f (x j))).getD i 0 ≤ 255
    rw [List.getD_eq_getElem?_getD]
    cases hh : (leBytes L (rOf f (x j)))[i]? with
    | none => simp
    | some y => exact isByte_leBytes L _ y (List.mem_of_getElem? hh)
  have HVec : Hid (∀ w', Kept w w' → Calls Try.prog 94 #[.int .u8 f, .slice a n cap] w' fun e w'' => ∃ v, e = .returned v ∧ Kept w' w'' ∧ w''.ownsRow w'.heap.size 5 1 v (n * L) (vecL bt L n)) :=
    Lib.hid fun w' k => f_Vec_r w' f a n cap _ L _ _ bt hL0 h16 (by omega) (hA.kept k) (Lib.hid fun j hj W => by
      have h := f_Bytes hf (hx j hj) W
      rw [hLt] at h
      exact h)
  have HRVec : Hid (∀ w' ad cp, SlE w' ad n cp w'.heap.size (fun j => rOf f (x j) % 18446744073709551616) (fun j => rOf f (x j) / 18446744073709551616) → ∀ W, Kept w' W → Calls Try.prog 96 #[.int .i64 f, .slice ad n cp] W fun e w'' => ∃ v, e = .returned v ∧ (readMean (vecL bt L n)).is v w'' ∧ Kept W w'') :=
    Lib.hid fun w' ad cp hs W k => (ref_Vec_r W f ad n cp _ L _ _ bt hL0 h16 (by omega) (hs.kept k) (Lib.hid fun j hj W2 => by
      have h := ref_Bytes hf (is128_rOf f (x j)) W2
      rw [rOf_of_lt (rOf_lo f (x j)) (rOf_lt f (x j)), hLt, bytes_at] at h
      exact h.mono fun e w'' ⟨v, h1, h2, h3⟩ => ⟨v, h1, ownsRow_base h2 (by omega), h3⟩)).mono fun e w'' ⟨v, h1, h2, h3⟩ => ⟨v, h1, reads_of_own h3, h2⟩
  have HC : Hid (∀ v w', Reads w' v (vecL bt L n) → (convert 42 9 v).run Try.prog w' = .ok (.string (strR (n * L) fun c => bt (c / L) (c % L))) w') :=
    Lib.hid fun v w' h => conv_R (C := fun c => bt (c / L) (c % L)) h fun j _ => hbt _ _
  have HTV : Hid (∀ w' base v, Kept w w' → w'.ownsRow base 5 1 v (n * L) (vecL bt L n) → Calls Try.prog 95 #[.int .u8 f, v, .int .i64 (n : Int)] w' fun e w'' => ∃ v', e = .returned (.tuple #[v', .int .i64 0]) ∧ Kept w' w'' ∧ w''.ownsRow w'.heap.size 28 2 v' n (elist (fun j => rOf f (x j) % 18446744073709551616) (fun j => rOf f (x j) / 18446744073709551616) n)) :=
    Lib.hid fun w' base v k hown => by
      obtain ⟨ba, bc, bg, rfl, h1, h2, h3, h4⟩ := owned_shape hown
      have hKL : n * L ≤ 4096 * 16 := Nat.mul_le_mul (by omega) h16
      have eKL : (n : Int) * (L : Int) = ((n * L : Nat) : Int) := by simp
      have hcl : ∀ j, j < n * L → w'.cell? ⟨bg, 0 + j, none⟩ = some (.int .u8 ((fun c => bt (c / L) (c % L)) j)) := fun j hj => h4 j _ (by unfold vecL; rw [List.getElem?_map, List.getElem?_range hj]; rfl)
      have hch : ∀ i, i < n → chunk (fun c => bt (c / L) (c % L)) L i = leBytes L (rOf f (x i)) := fun i hi => by
        refine List.ext_getElem? fun j => ?_
        rcases Nat.lt_or_ge j L with hj | hj
        · unfold chunk
          rw [List.getElem?_map, List.getElem?_range hj]
          show some (bt ((i * L + j) / L) ((i * L + j) % L)) = _
          rw [Nat.mul_comm i L, Nat.mul_add_div hL0, Nat.mul_add_mod, Nat.div_eq_of_lt hj, Nat.mod_eq_of_lt hj, Nat.add_zero]
          show some ((leBytes L (rOf f (x i))).getD j 0) = _
          rw [List.getD_eq_getElem?_getD, List.getElem?_eq_getElem (by rw [length_leBytes]; exact hj)]
          rfl
        · rw [List.getElem?_eq_none (by rw [chunk_length]; exact hj), List.getElem?_eq_none (by rw [length_leBytes]; exact hj)]
      refine f_TakeVec_ok w' f hV L hL0 h16 hS ba (n * L) bc bg 0 n (by omega) (Lib.hid rfl) h1 h2 h3 (by rw [eKL]; exact IntWalk.i64_in _ (by omega)) _ _ (Lib.hid fun i hi W cc kk hcc => ?_)
      have h := take_chunk hf hL (fun j _ => hbt (j / L) (j % L)) hcl rfl hi W kk cc hcc
      rw [hch i hi, leVal_leBytes_rOf hf hL, if_pos (rOf_lt f (x i))] at h
      exact h
  exact field_vecs_r u f hF wf a n cap w.heap.size (fun j => x j % 18446744073709551616) (fun j => x j / 18446744073709551616) (fun j => rOf f (x j) % 18446744073709551616) (fun j => rOf f (x j) / 18446744073709551616) (by omega) c m capc g o ym hc hmc hcap63 L hL0 h16 hS many _ hq w hA
    (Lib.hid fun j hj => ref_Of hf (hx j hj)) bt _ HVec HRVec HC HTV (Lib.hid fun kv _ => vmode hf hL hmc hb hcell hcap63 hc kv) (Lib.hid (tmode hf hL hmc hb hcell hc))
theorem fieldVecs_walk (u : Int) (wu : (Lit.int .u8 u).wf = true) (a : Option Addr) (n cap : Nat) (x : Nat → Int) (c : Option Addr) (m capc : Nat) (C : Nat → Int) (many : Int) (wm : (Lit.int .i64 many).wf = true) (w : World)
    (hs : (n : Int) ≤ 9223372036854775807 ∧ (∀ j, j < n → is128 (x j)) ∧ SlX w a n cap w.heap.size x)
    (ht : (m : Int) ≤ 9223372036854775807 ∧ m ≤ capc ∧ (capc : Int) ≤ 9223372036854775807 ∧ (∀ j, j < m → 0 ≤ C j ∧ C j ≤ 255) ∧ ∃ (g o : Nat), (m = 0 ∨ c = some ⟨g, o, none⟩) ∧ (∀ j, j < m → w.cell? ⟨g, o + j, none⟩ = some (.int .u8 (C j))) ∧ (m = 0 ∨ g < w.heap.size)) :
    Calls Try.prog 23 #[.int .u8 u, .slice a n cap, .slice c m capc, .int .i64 many] w fun e w' => e = .returned (.bool true) ∧ Kept w w' := by
  have h1 : 0 ≤ u ∧ u ≤ 255 := by
    simp [Lit.wf, IntKind.min, IntKind.max, IntKind.signed, IntKind.bits] at wu
    omega
  obtain ⟨m1, m2, m3, m4, g, o, m5, m6, _⟩ := ht
  exact fieldVecs_E u h1.1 h1.2 a n cap x c m capc C many w hs.1 hs.2.1 hs.2.2 m1 m2 m3 m4 g o m5 m6
end Go.Proofs.Ytnajihlhcdedgaa
