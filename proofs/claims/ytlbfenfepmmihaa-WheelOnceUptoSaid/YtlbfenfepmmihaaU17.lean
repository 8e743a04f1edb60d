/- Part 17 of what the closing text rests on. -/
import Derived.Test.YtlbfenfepmmihaaU16
import Derived.Test.YtlbfenfepmmihaaRows
namespace Go.ZR
open Go.Proofs
open Go.Z Go.ZM Go.RowKit
set_option maxRecDepth 100000
theorem upF_congr {n : Nat} : ∀ (u : Nat) {f g : Nat → Tim} {j : Nat}, j < n → (∀ k, k < n → f k = g k) → ∀ k, k < n → upF u f j k = upF u g j k
  | 0, _, _, _, _, h => h
  | u + 1, f, g, j, hj, h => by
    intro k hk
    unfold upF
    rw [h j hj, h ((j - 1) / 2) (by omega)]
    split
    · exact h k hk
    · split
      · exact h k hk
      · refine upF_congr u (by omega) (fun m hm => ?_) k hk
        unfold swp
        rw [h j hj, h ((j - 1) / 2) (by omega), h m hm]
theorem upF_fuel : ∀ (u v : Nat) (f : Nat → Tim) {j : Nat}, j ≤ u → j ≤ v → upF u f j = upF v f j
  | 0, 0, _, _, _, _ => rfl
  | 0, v + 1, f, j, h, _ => by
    obtain rfl : j = 0 := by omega
    unfold upF
    rfl
  | u + 1, 0, f, j, _, h => by
    obtain rfl : j = 0 := by omega
    unfold upF
    rfl
  | u + 1, v + 1, f, j, h1, h2 => by
    unfold upF
    split
    · rfl
    · split
      · rfl
      · exact upF_fuel u v _ (by omega) (by omega)
theorem upT_len (l : List Tim) (j : Nat) : (upT l j).length = l.length := fl_len _ _
theorem upT_stop {l : List Tim} {j : Nat} (h : (j - 1) / 2 = j ∨ ltT (tf l j) (tf l ((j - 1) / 2)) = false) : upT l j = l := by
  have e : upF l.length (tf l) j = tf l := by
    cases l.length with
    | zero => rfl
    | succ u =>
      unfold upF
      split
      · rfl
      · rename_i hn
        rw [if_pos (h.resolve_left hn)]
  unfold upT
  rw [e, fl_tf]
theorem upT_step {l : List Tim} {j : Nat} (hj : j < l.length) (h1 : (j - 1) / 2 ≠ j) (h2 : ltT (tf l j) (tf l ((j - 1) / 2)) = true) : upT l j = upT (swpL l ((j - 1) / 2) j) ((j - 1) / 2) := by
  obtain ⟨u, hu⟩ : ∃ u, l.length = u + 1 := ⟨l.length - 1, by omega⟩
  unfold upT
  rw [swpL_len, hu]
  have e1 : upF (u + 1) (tf l) j = upF u (swp (tf l) ((j - 1) / 2) j) ((j - 1) / 2) := by
    conv => lhs; unfold upF
    rw [if_neg h1, if_neg (by rw [h2]; decide)]
  rw [e1, upF_fuel u (u + 1) _ (by omega) (by omega)]
  refine List.map_congr_left fun k hk => ?_
  have hk' := List.mem_range.1 hk
  exact upF_congr (n := u + 1) (u + 1) (by omega) (fun m hm => (tf_swpL (by omega)).symm) k hk'
theorem kid_congr {f g : Nat → Tim} {i n m : Nat} (hn : n ≤ m) (h : ∀ k, k < m → f k = g k) (_hlt : 2 * i + 1 < n) : kid f i n = kid g i n := by
  unfold kid
  by_cases h2 : 2 * i + 2 < n
  · rw [h _ (show 2 * i + 2 < m by omega), h _ (show 2 * i + 1 < m by omega)]
  · simp [h2]
theorem downF_congr {n m : Nat} (hn : n ≤ m) : ∀ (u : Nat) {f g : Nat → Tim} {i : Nat}, i < m → (∀ k, k < m → f k = g k) → (∀ k, k < m → (downF u f i n).1 k = (downF u g i n).1 k) ∧ (downF u f i n).2 = (downF u g i n).2
  | 0, _, _, _, _, h => ⟨h, rfl⟩
  | u + 1, f, g, i, hi, h => by
    unfold downF
    by_cases h0 : n ≤ 2 * i + 1
    · rw [if_pos h0, if_pos h0]
      exact ⟨h, rfl⟩
    · rw [if_neg h0, if_neg h0]
      have hk := kid_congr (i := i) hn h (by omega)
      have hkl := (kid_lt (f := g) (i := i) (n := n) (by omega)).1
      rw [hk, h _ (show kid g i n < m by omega), h i hi]
      split
      · exact ⟨h, rfl⟩
      · refine downF_congr hn u (by omega) fun k hkm => ?_
        unfold swp
        rw [h _ (show kid g i n < m by omega), h i hi, h k hkm]
theorem downF_fuel : ∀ (u v : Nat) (f : Nat → Tim) {i n : Nat}, n ≤ i + u → n ≤ i + v → downF u f i n = downF v f i n
  | 0, 0, _, _, _, _, _ => rfl
  | 0, v + 1, f, i, n, h, _ => by
    unfold downF
    rw [if_pos (by omega)]
  | u + 1, 0, f, i, n, _, h => by
    unfold downF
    rw [if_pos (by omega)]
  | u + 1, v + 1, f, i, n, h1, h2 => by
    unfold downF
    by_cases h0 : n ≤ 2 * i + 1
    · rw [if_pos h0, if_pos h0]
    · rw [if_neg h0, if_neg h0]
      have hkl := (kid_lt (f := f) (i := i) (n := n) (by omega)).2.1
      split
      · rfl
      · exact downF_fuel u v _ (by omega) (by omega)
theorem downT_stop {l : List Tim} {i n : Nat} (h : n ≤ 2 * i + 1 ∨ ltT (tf l (kid (tf l) i n)) (tf l i) = false) : downT l i n = (l, i) := by
  have e : downF n (tf l) i n = (tf l, i) := by
    cases n with
    | zero => rfl
    | succ u =>
      unfold downF
      split
      · rfl
      · rename_i hn
        rw [if_pos (h.resolve_left hn)]
  unfold downT
  rw [e, fl_tf]
theorem downT_step {l : List Tim} {i n : Nat} (hn : n ≤ l.length) (h1 : 2 * i + 1 < n) (h2 : ltT (tf l (kid (tf l) i n)) (tf l i) = true) : downT l i n = downT (swpL l i (kid (tf l) i n)) (kid (tf l) i n) n := by
  have hk := kid_lt (f := tf l) h1
  obtain ⟨u, hu⟩ : ∃ u, n = u + 1 := ⟨n - 1, by omega⟩
  have e1 : downF n (tf l) i n = downF n (swp (tf l) i (kid (tf l) i n)) (kid (tf l) i n) n := by
    conv => lhs; rw [hu]; unfold downF
    rw [← hu, if_neg (by omega), if_neg (by rw [h2]; decide)]
    exact downF_fuel u n _ (by omega) (by omega)
  have c := downF_congr hn n (f := swp (tf l) i (kid (tf l) i n)) (g := tf (swpL l i (kid (tf l) i n))) (i := kid (tf l) i n) (by omega) (fun k hk => (tf_swpL hk).symm)
  unfold downT
  rw [e1, swpL_len, c.2]
  refine Prod.ext (List.map_congr_left fun k hk => c.1 k (List.mem_range.1 hk)) rfl
theorem downT_len (l : List Tim) (i n : Nat) : (downT l i n).1.length = l.length := fl_len _ _
theorem w3_ok : COk Try.prog (ctrs w3) := cok_cons ok291 (cok_cons ok292 (cok_cons ok293 (cok_cons ok294 (cok_cons ok295 cok_nil))))
noncomputable def code134 : Code := match Try.f134.body with | some c => c | none => .skip
set_option maxHeartbeats 4000000 in
theorem vc134 : ∀ (w : Whl) (j : Nat), okW w → j < w.l.length → ∃ (g0 : Nat × List Tim), (okW (Whl.mk g0.snd w.ks) ∧ g0.fst < g0.snd.length ∧ upT g0.snd g0.fst = upT w.l j) ∧
  (↑j : Int) = (↑g0.fst : Int) ∧ (w.l.length = g0.snd.length ∧ ∀ (i : Nat), i < w.l.length → ∀ (j_1 : Nat), j_1 < (2 : Nat) → timCell w.l i j_1 = timCell g0.snd i j_1) ∧
  w.ks = w.ks ∧ posL w = posL (Whl.mk g0.snd w.ks) ∧ (!(Nat.beq (0 : Nat) (2 : Nat) || (Nat.beq (1 : Nat) (2 : Nat) || false)) && (!(Nat.beq (1 : Nat) (0 : Nat) || false) && (!false && true)) && true) = true ∧
  ∀ (g : Nat × List Tim), okW (Whl.mk g.snd w.ks) ∧ g.fst < g.snd.length ∧ upT g.snd g.fst = upT w.l j → True ∧ (2 : Int) ≠ (0 : Int) ∧ True ∧ sw (decide (IntKind.i64.wrap ((IntKind.i64.wrap ((↑g.fst : Int) - (1 : Int))).tdiv (2 : Int)) = (↑g.fst : Int))) ((g.snd.length = (upT (timsOf (D.recs (2 : Nat) w.l.length (timCell w.l))) (↑j : Int).toNat).length ∧
  ∀ (i : Nat), i < g.snd.length → ∀ (j_1 : Nat), j_1 < (2 : Nat) → timCell g.snd i j_1 = timCell (upT (timsOf (D.recs (2 : Nat) w.l.length (timCell w.l))) (↑j : Int).toNat) i j_1) ∧
  w.ks = w.ks ∧ posL (Whl.mk g.snd w.ks) = posL (Whl.mk (upT (timsOf (D.recs (2 : Nat) w.l.length (timCell w.l))) (↑j : Int).toNat) w.ks) ∧ (!(Nat.beq (3 : Nat) (2 : Nat) || (Nat.beq (4 : Nat) (2 : Nat) || false)) && (!(Nat.beq (4 : Nat) (3 : Nat) || false) && (!false && true)) && true) = true) ((∃ (w_1 : Whl), ∃ (i : Nat), ∃ (j_1 : Nat), [O.ptr (183 : Nat) [O.own (99 : Nat) (D.recs (2 : Nat) g.snd.length (timCell g.snd)), O.map (Col.ints IntKind.i64 w.ks) (Col.ints IntKind.i64 (posL (Whl.mk g.snd w.ks)))], O.d (D.v (Value.int IntKind.i64 (↑g.fst : Int))), O.d (D.v (Value.int IntKind.i64 (IntKind.i64.wrap ((IntKind.i64.wrap ((↑g.fst : Int) - (1 : Int))).tdiv (2 : Int)))))] = [O.ptr (183 : Nat) [O.own (99 : Nat) (D.recs (2 : Nat) w_1.l.length (timCell w_1.l)), O.map (Col.ints IntKind.i64 w_1.ks) (Col.ints IntKind.i64 (posL w_1))], O.d (D.v (Value.int IntKind.i64 (↑i : Int))), O.d (D.v (Value.int IntKind.i64 (↑j_1 : Int)))] ∧
  w_1.l.length ≤ (4096 : Nat) ∧ i < w_1.l.length ∧ j_1 < w_1.l.length) ∧ sw (!ltT (tf (timsOf (D.recs (2 : Nat) g.snd.length (timCell g.snd))) (↑g.fst : Int).toNat) (tf (timsOf (D.recs (2 : Nat) g.snd.length (timCell g.snd))) (IntKind.i64.wrap ((IntKind.i64.wrap ((↑g.fst : Int) - (1 : Int))).tdiv (2 : Int))).toNat)) (((timsOf (D.recs (2 : Nat) g.snd.length (timCell g.snd))).length = (upT (timsOf (D.recs (2 : Nat) w.l.length (timCell w.l))) (↑j : Int).toNat).length ∧
  ∀ (i : Nat), i < (timsOf (D.recs (2 : Nat) g.snd.length (timCell g.snd))).length → ∀ (j_1 : Nat), j_1 < (2 : Nat) → timCell (timsOf (D.recs (2 : Nat) g.snd.length (timCell g.snd))) i j_1 = timCell (upT (timsOf (D.recs (2 : Nat) w.l.length (timCell w.l))) (↑j : Int).toNat) i j_1) ∧
  w.ks = w.ks ∧ posL (Whl.mk (timsOf (D.recs (2 : Nat) g.snd.length (timCell g.snd))) w.ks) = posL (Whl.mk (upT (timsOf (D.recs (2 : Nat) w.l.length (timCell w.l))) (↑j : Int).toNat) w.ks) ∧
  (!(Nat.beq (5 : Nat) (2 : Nat) || (Nat.beq (6 : Nat) (2 : Nat) || false)) && (!(Nat.beq (6 : Nat) (5 : Nat) || false) && (!false && true)) && true) = true) ((∃ (w_1 : Whl), ∃ (i : Nat), ∃ (j_1 : Nat), [O.ptr (183 : Nat) [O.own (99 : Nat) (D.recs (2 : Nat) (timsOf (D.recs (2 : Nat) g.snd.length (timCell g.snd))).length (timCell (timsOf (D.recs (2 : Nat) g.snd.length (timCell g.snd))))), O.map (Col.ints IntKind.i64 w.ks) (Col.ints IntKind.i64 (posL (Whl.mk (timsOf (D.recs (2 : Nat) g.snd.length (timCell g.snd))) w.ks)))], O.d (D.v (Value.int IntKind.i64 (IntKind.i64.wrap ((IntKind.i64.wrap ((↑g.fst : Int) - (1 : Int))).tdiv (2 : Int))))), O.d (D.v (Value.int IntKind.i64 (↑g.fst : Int)))] = [O.ptr (183 : Nat) [O.own (99 : Nat) (D.recs (2 : Nat) w_1.l.length (timCell w_1.l)), O.map (Col.ints IntKind.i64 w_1.ks) (Col.ints IntKind.i64 (posL w_1))], O.d (D.v (Value.int IntKind.i64 (↑i : Int))), O.d (D.v (Value.int IntKind.i64 (↑j_1 : Int)))] ∧
  okW w_1 ∧ i < w_1.l.length ∧ j_1 < w_1.l.length) ∧ ∃ (g' : Nat × List Tim), (okW (Whl.mk g'.snd w.ks) ∧ g'.fst < g'.snd.length ∧ upT g'.snd g'.fst = upT w.l j) ∧
  g'.fst < g.fst ∧ (IntKind.i64.wrap ((IntKind.i64.wrap ((↑g.fst : Int) - (1 : Int))).tdiv (2 : Int)) = (↑g'.fst : Int) ∧ ((swpL (timsOf (D.recs (2 : Nat) (timsOf (D.recs (2 : Nat) g.snd.length (timCell g.snd))).length (timCell (timsOf (D.recs (2 : Nat) g.snd.length (timCell g.snd)))))) (IntKind.i64.wrap ((IntKind.i64.wrap ((↑g.fst : Int) - (1 : Int))).tdiv (2 : Int))).toNat (↑g.fst : Int).toNat).length = g'.snd.length ∧
  ∀ (i : Nat), i < (swpL (timsOf (D.recs (2 : Nat) (timsOf (D.recs (2 : Nat) g.snd.length (timCell g.snd))).length (timCell (timsOf (D.recs (2 : Nat) g.snd.length (timCell g.snd)))))) (IntKind.i64.wrap ((IntKind.i64.wrap ((↑g.fst : Int) - (1 : Int))).tdiv (2 : Int))).toNat (↑g.fst : Int).toNat).length →
  ∀ (j_1 : Nat), j_1 < (2 : Nat) → timCell (swpL (timsOf (D.recs (2 : Nat) (timsOf (D.recs (2 : Nat) g.snd.length (timCell g.snd))).length (timCell (timsOf (D.recs (2 : Nat) g.snd.length (timCell g.snd)))))) (IntKind.i64.wrap ((IntKind.i64.wrap ((↑g.fst : Int) - (1 : Int))).tdiv (2 : Int))).toNat (↑g.fst : Int).toNat) i j_1 = timCell g'.snd i j_1) ∧
  w.ks = w.ks ∧ posL (Whl.mk (swpL (timsOf (D.recs (2 : Nat) (timsOf (D.recs (2 : Nat) g.snd.length (timCell g.snd))).length (timCell (timsOf (D.recs (2 : Nat) g.snd.length (timCell g.snd)))))) (IntKind.i64.wrap ((IntKind.i64.wrap ((↑g.fst : Int) - (1 : Int))).tdiv (2 : Int))).toNat (↑g.fst : Int).toNat) w.ks) = posL (Whl.mk g'.snd w.ks) ∧
  (!(Nat.beq (7 : Nat) (2 : Nat) || (Nat.beq (8 : Nat) (2 : Nat) || false)) && (!(Nat.beq (8 : Nat) (7 : Nat) || false) && (!false && true)) && true && ((Nat.ble (3 : Nat) (2 : Nat) || (Nat.beq (2 : Nat) (2 : Nat) || (Nat.beq (0 : Nat) (2 : Nat) || (Nat.beq (1 : Nat) (2 : Nat) || false)))) && ((Nat.ble (3 : Nat) (7 : Nat) || (Nat.beq (2 : Nat) (7 : Nat) || (Nat.beq (0 : Nat) (7 : Nat) || (Nat.beq (1 : Nat) (7 : Nat) || false)))) && ((Nat.ble (3 : Nat) (8 : Nat) || (Nat.beq (2 : Nat) (8 : Nat) || (Nat.beq (0 : Nat) (8 : Nat) || (Nat.beq (1 : Nat) (8 : Nat) || false)))) && true)))) = true) ∧
  (some (SV.i (186 : Nat) (SV.p (2 : Nat) (0 : Nat))) = some (SV.i (186 : Nat) (SV.p (2 : Nat) (0 : Nat))) ∧ True) ∧ True)) := by
  simp only [↓sw_iff, ↓Bool.and_eq_true, ↓decide_eq_true_eq, ↓decide_eq_false_iff_not, ↓Bool.not_eq_true', ↓Bool.not_eq_false', true_and, and_true, Bool.or_false, Bool.false_or, Nat.ble, Nat.beq, Int.toNat_natCast, timsOf_cell, Int.toNat_natCast]
  intro w j h hj
  refine ⟨(j, w.l), ⟨h, hj, rfl⟩, rfl, ⟨rfl, fun i hi k hk => rfl⟩, rfl, ?_⟩
  rintro ⟨c, l⟩ ⟨h1, h2, h3⟩
  simp only at h1 h2 h3 ⊢
  have hl : l.length ≤ 4096 := h1.2.2
  have hw : IntKind.i64.wrap ((IntKind.i64.wrap ((c : Int) - 1)).tdiv 2) = (((c - 1) / 2 : Nat) : Int) := by
    have e1 : IntKind.i64.wrap ((c : Int) - 1) = (c : Int) - 1 := wrap_i64_id (by omega) (by omega)
    rw [e1]
    have e2 : ((c : Int) - 1).tdiv 2 = (((c - 1) / 2 : Nat) : Int) := by
      cases c with
      | zero => rfl
      | succ m => rw [Int.tdiv_eq_ediv_of_nonneg (by omega)]; omega
    rw [e2]
    exact wrap_i64_id (by omega) (by omega)
  simp only [hw, Int.toNat_natCast]
  refine ⟨by decide, fun he => ?_, fun hne => ⟨⟨⟨l, w.ks⟩, c, (c - 1) / 2, rfl, hl, h2, show (c - 1) / 2 < l.length by omega⟩, fun hf => ?_, fun ht => ⟨⟨⟨l, w.ks⟩, (c - 1) / 2, c, rfl, h1, show (c - 1) / 2 < l.length by omega, h2⟩, ((c - 1) / 2, swpL l ((c - 1) / 2) c), ⟨swpL_ok h1 (show (c - 1) / 2 < l.length by omega) h2, by rw [swpL_len]; omega, (upT_step h2 (by omega) ht).symm.trans h3⟩, by omega, rfl, ⟨rfl, fun i hi k hk => rfl⟩, rfl⟩⟩⟩
  · rw [← h3, upT_stop (.inl (by omega))]
    exact ⟨⟨rfl, fun i hi k hk => rfl⟩, rfl⟩
  · rw [← h3, upT_stop (.inr hf)]
    exact ⟨⟨rfl, fun i hi k hk => rfl⟩, rfl⟩
set_option maxRecDepth 100000 in
theorem ok134 : FnIs Try.prog 134 upC := by
  refine fnIs (C := (ctrs w3)) (by kernel_rfl) w3_ok Try.func134 (code := code134) (by kernel_rfl) (by kernel_rfl) ?_
  rintro a ⟨w, j, rfl, h, hj⟩
  exact ⟨anns [(0, upA w j)] [1], kcast (vc134 w j h hj) (by kernel_rfl)⟩

noncomputable def code133 : Code := match Try.f133.body with | some c => c | none => .skip
set_option maxHeartbeats 4000000 in
theorem vc133 : ∀ (w : Whl) (i n : Nat), okW w → i < w.l.length → n ≤ w.l.length → ∃ (g0 : Nat × List Tim), (okW (Whl.mk g0.snd w.ks) ∧ g0.fst < g0.snd.length ∧ n ≤ g0.snd.length ∧
  i ≤ g0.fst ∧ downT g0.snd g0.fst n = downT w.l i n) ∧ (↑i : Int) = (↑g0.fst : Int) ∧ (w.l.length = g0.snd.length ∧ ∀ (i_1 : Nat), i_1 < w.l.length → ∀ (j : Nat), j < (2 : Nat) →
  timCell w.l i_1 j = timCell g0.snd i_1 j) ∧ w.ks = w.ks ∧ posL w = posL (Whl.mk g0.snd w.ks) ∧ (!(Nat.beq (0 : Nat) (2 : Nat) || (Nat.beq (1 : Nat) (2 : Nat) || false)) && (!(Nat.beq (1 : Nat) (0 : Nat) || false) && (!false && true)) && true) = true ∧
  ∀ (g : Nat × List Tim), okW (Whl.mk g.snd w.ks) ∧ g.fst < g.snd.length ∧ n ≤ g.snd.length ∧ i ≤ g.fst ∧ downT g.snd g.fst n = downT w.l i n → True ∧ True ∧
  True ∧ sw (decide ((↑n : Int) ≤ IntKind.i64.wrap (IntKind.i64.wrap ((2 : Int) * (↑g.fst : Int)) + (1 : Int)))) (True ∧ (g.snd.length = (downT (timsOf (D.recs (2 : Nat) w.l.length (timCell w.l))) (↑i : Int).toNat (↑n : Int).toNat).fst.length ∧
  ∀ (i_1 : Nat), i_1 < g.snd.length → ∀ (j : Nat), j < (2 : Nat) → timCell g.snd i_1 j = timCell (downT (timsOf (D.recs (2 : Nat) w.l.length (timCell w.l))) (↑i : Int).toNat (↑n : Int).toNat).fst i_1 j) ∧
  w.ks = w.ks ∧ posL (Whl.mk g.snd w.ks) = posL (Whl.mk (downT (timsOf (D.recs (2 : Nat) w.l.length (timCell w.l))) (↑i : Int).toNat (↑n : Int).toNat).fst w.ks) ∧
  decide ((↑i : Int) < (↑g.fst : Int)) = decide ((↑i : Int).toNat < (downT (timsOf (D.recs (2 : Nat) w.l.length (timCell w.l))) (↑i : Int).toNat (↑n : Int).toNat).snd) ∧
  (!(Nat.beq (3 : Nat) (2 : Nat) || (Nat.beq (4 : Nat) (2 : Nat) || false)) && (!(Nat.beq (4 : Nat) (3 : Nat) || false) && (!false && true)) && true) = true) (True ∧
  sw (decide (IntKind.i64.wrap (IntKind.i64.wrap ((2 : Int) * (↑g.fst : Int)) + (1 : Int)) < (0 : Int))) (True ∧ (g.snd.length = (downT (timsOf (D.recs (2 : Nat) w.l.length (timCell w.l))) (↑i : Int).toNat (↑n : Int).toNat).fst.length ∧
  ∀ (i_1 : Nat), i_1 < g.snd.length → ∀ (j : Nat), j < (2 : Nat) → timCell g.snd i_1 j = timCell (downT (timsOf (D.recs (2 : Nat) w.l.length (timCell w.l))) (↑i : Int).toNat (↑n : Int).toNat).fst i_1 j) ∧
  w.ks = w.ks ∧ posL (Whl.mk g.snd w.ks) = posL (Whl.mk (downT (timsOf (D.recs (2 : Nat) w.l.length (timCell w.l))) (↑i : Int).toNat (↑n : Int).toNat).fst w.ks) ∧
  decide ((↑i : Int) < (↑g.fst : Int)) = decide ((↑i : Int).toNat < (downT (timsOf (D.recs (2 : Nat) w.l.length (timCell w.l))) (↑i : Int).toNat (↑n : Int).toNat).snd) ∧
  (!(Nat.beq (3 : Nat) (2 : Nat) || (Nat.beq (4 : Nat) (2 : Nat) || false)) && (!(Nat.beq (4 : Nat) (3 : Nat) || false) && (!false && true)) && true) = true) (True ∧
  True ∧ sw (decide (IntKind.i64.wrap (IntKind.i64.wrap (IntKind.i64.wrap ((2 : Int) * (↑g.fst : Int)) + (1 : Int)) + (1 : Int)) < (↑n : Int))) ((∃ (w_1 : Whl), ∃ (i_1 : Nat), ∃ (j : Nat), [O.ptr (183 : Nat) [O.own (99 : Nat) (D.recs (2 : Nat) g.snd.length (timCell g.snd)), O.map (Col.ints IntKind.i64 w.ks) (Col.ints IntKind.i64 (posL (Whl.mk g.snd w.ks)))], O.d (D.v (Value.int IntKind.i64 (IntKind.i64.wrap (IntKind.i64.wrap (IntKind.i64.wrap ((2 : Int) * (↑g.fst : Int)) + (1 : Int)) + (1 : Int))))), O.d (D.v (Value.int IntKind.i64 (IntKind.i64.wrap (IntKind.i64.wrap ((2 : Int) * (↑g.fst : Int)) + (1 : Int)))))] = [O.ptr (183 : Nat) [O.own (99 : Nat) (D.recs (2 : Nat) w_1.l.length (timCell w_1.l)), O.map (Col.ints IntKind.i64 w_1.ks) (Col.ints IntKind.i64 (posL w_1))], O.d (D.v (Value.int IntKind.i64 (↑i_1 : Int))), O.d (D.v (Value.int IntKind.i64 (↑j : Int)))] ∧
  w_1.l.length ≤ (4096 : Nat) ∧ i_1 < w_1.l.length ∧ j < w_1.l.length) ∧ sw (ltT (tf (timsOf (D.recs (2 : Nat) g.snd.length (timCell g.snd))) (IntKind.i64.wrap (IntKind.i64.wrap (IntKind.i64.wrap ((2 : Int) * (↑g.fst : Int)) + (1 : Int)) + (1 : Int))).toNat) (tf (timsOf (D.recs (2 : Nat) g.snd.length (timCell g.snd))) (IntKind.i64.wrap (IntKind.i64.wrap ((2 : Int) * (↑g.fst : Int)) + (1 : Int))).toNat)) ((∃ (w_1 : Whl), ∃ (i_1 : Nat), ∃ (j : Nat), [O.ptr (183 : Nat) [O.own (99 : Nat) (D.recs (2 : Nat) (timsOf (D.recs (2 : Nat) g.snd.length (timCell g.snd))).length (timCell (timsOf (D.recs (2 : Nat) g.snd.length (timCell g.snd))))), O.map (Col.ints IntKind.i64 w.ks) (Col.ints IntKind.i64 (posL (Whl.mk (timsOf (D.recs (2 : Nat) g.snd.length (timCell g.snd))) w.ks)))], O.d (D.v (Value.int IntKind.i64 (IntKind.i64.wrap (IntKind.i64.wrap (IntKind.i64.wrap ((2 : Int) * (↑g.fst : Int)) + (1 : Int)) + (1 : Int))))), O.d (D.v (Value.int IntKind.i64 (↑g.fst : Int)))] = [O.ptr (183 : Nat) [O.own (99 : Nat) (D.recs (2 : Nat) w_1.l.length (timCell w_1.l)), O.map (Col.ints IntKind.i64 w_1.ks) (Col.ints IntKind.i64 (posL w_1))], O.d (D.v (Value.int IntKind.i64 (↑i_1 : Int))), O.d (D.v (Value.int IntKind.i64 (↑j : Int)))] ∧
  w_1.l.length ≤ (4096 : Nat) ∧ i_1 < w_1.l.length ∧ j < w_1.l.length) ∧ sw (!ltT (tf (timsOf (D.recs (2 : Nat) (timsOf (D.recs (2 : Nat) g.snd.length (timCell g.snd))).length (timCell (timsOf (D.recs (2 : Nat) g.snd.length (timCell g.snd)))))) (IntKind.i64.wrap (IntKind.i64.wrap (IntKind.i64.wrap ((2 : Int) * (↑g.fst : Int)) + (1 : Int)) + (1 : Int))).toNat) (tf (timsOf (D.recs (2 : Nat) (timsOf (D.recs (2 : Nat) g.snd.length (timCell g.snd))).length (timCell (timsOf (D.recs (2 : Nat) g.snd.length (timCell g.snd)))))) (↑g.fst : Int).toNat)) (True ∧
  ((timsOf (D.recs (2 : Nat) (timsOf (D.recs (2 : Nat) g.snd.length (timCell g.snd))).length (timCell (timsOf (D.recs (2 : Nat) g.snd.length (timCell g.snd)))))).length = (downT (timsOf (D.recs (2 : Nat) w.l.length (timCell w.l))) (↑i : Int).toNat (↑n : Int).toNat).fst.length ∧
  ∀ (i_1 : Nat), i_1 < (timsOf (D.recs (2 : Nat) (timsOf (D.recs (2 : Nat) g.snd.length (timCell g.snd))).length (timCell (timsOf (D.recs (2 : Nat) g.snd.length (timCell g.snd)))))).length →
  ∀ (j : Nat), j < (2 : Nat) → timCell (timsOf (D.recs (2 : Nat) (timsOf (D.recs (2 : Nat) g.snd.length (timCell g.snd))).length (timCell (timsOf (D.recs (2 : Nat) g.snd.length (timCell g.snd)))))) i_1 j = timCell (downT (timsOf (D.recs (2 : Nat) w.l.length (timCell w.l))) (↑i : Int).toNat (↑n : Int).toNat).fst i_1 j) ∧
  w.ks = w.ks ∧ posL (Whl.mk (timsOf (D.recs (2 : Nat) (timsOf (D.recs (2 : Nat) g.snd.length (timCell g.snd))).length (timCell (timsOf (D.recs (2 : Nat) g.snd.length (timCell g.snd)))))) w.ks) = posL (Whl.mk (downT (timsOf (D.recs (2 : Nat) w.l.length (timCell w.l))) (↑i : Int).toNat (↑n : Int).toNat).fst w.ks) ∧
  decide ((↑i : Int) < (↑g.fst : Int)) = decide ((↑i : Int).toNat < (downT (timsOf (D.recs (2 : Nat) w.l.length (timCell w.l))) (↑i : Int).toNat (↑n : Int).toNat).snd) ∧
  (!(Nat.beq (7 : Nat) (2 : Nat) || (Nat.beq (8 : Nat) (2 : Nat) || false)) && (!(Nat.beq (8 : Nat) (7 : Nat) || false) && (!false && true)) && true) = true) ((∃ (w_1 : Whl), ∃ (i_1 : Nat), ∃ (j : Nat), [O.ptr (183 : Nat) [O.own (99 : Nat) (D.recs (2 : Nat) (timsOf (D.recs (2 : Nat) (timsOf (D.recs (2 : Nat) g.snd.length (timCell g.snd))).length (timCell (timsOf (D.recs (2 : Nat) g.snd.length (timCell g.snd)))))).length (timCell (timsOf (D.recs (2 : Nat) (timsOf (D.recs (2 : Nat) g.snd.length (timCell g.snd))).length (timCell (timsOf (D.recs (2 : Nat) g.snd.length (timCell g.snd)))))))), O.map (Col.ints IntKind.i64 w.ks) (Col.ints IntKind.i64 (posL (Whl.mk (timsOf (D.recs (2 : Nat) (timsOf (D.recs (2 : Nat) g.snd.length (timCell g.snd))).length (timCell (timsOf (D.recs (2 : Nat) g.snd.length (timCell g.snd)))))) w.ks)))], O.d (D.v (Value.int IntKind.i64 (↑g.fst : Int))), O.d (D.v (Value.int IntKind.i64 (IntKind.i64.wrap (IntKind.i64.wrap (IntKind.i64.wrap ((2 : Int) * (↑g.fst : Int)) + (1 : Int)) + (1 : Int)))))] = [O.ptr (183 : Nat) [O.own (99 : Nat) (D.recs (2 : Nat) w_1.l.length (timCell w_1.l)), O.map (Col.ints IntKind.i64 w_1.ks) (Col.ints IntKind.i64 (posL w_1))], O.d (D.v (Value.int IntKind.i64 (↑i_1 : Int))), O.d (D.v (Value.int IntKind.i64 (↑j : Int)))] ∧
  okW w_1 ∧ i_1 < w_1.l.length ∧ j < w_1.l.length) ∧ ∃ (g' : Nat × List Tim), (okW (Whl.mk g'.snd w.ks) ∧ g'.fst < g'.snd.length ∧ n ≤ g'.snd.length ∧ i ≤ g'.fst ∧
  downT g'.snd g'.fst n = downT w.l i n) ∧ w.l.length - g'.fst < w.l.length - g.fst ∧ (IntKind.i64.wrap (IntKind.i64.wrap (IntKind.i64.wrap ((2 : Int) * (↑g.fst : Int)) + (1 : Int)) + (1 : Int)) = (↑g'.fst : Int) ∧
  ((swpL (timsOf (D.recs (2 : Nat) (timsOf (D.recs (2 : Nat) (timsOf (D.recs (2 : Nat) g.snd.length (timCell g.snd))).length (timCell (timsOf (D.recs (2 : Nat) g.snd.length (timCell g.snd)))))).length (timCell (timsOf (D.recs (2 : Nat) (timsOf (D.recs (2 : Nat) g.snd.length (timCell g.snd))).length (timCell (timsOf (D.recs (2 : Nat) g.snd.length (timCell g.snd))))))))) (↑g.fst : Int).toNat (IntKind.i64.wrap (IntKind.i64.wrap (IntKind.i64.wrap ((2 : Int) * (↑g.fst : Int)) + (1 : Int)) + (1 : Int))).toNat).length = g'.snd.length ∧
  ∀ (i_1 : Nat), i_1 < (swpL (timsOf (D.recs (2 : Nat) (timsOf (D.recs (2 : Nat) (timsOf (D.recs (2 : Nat) g.snd.length (timCell g.snd))).length (timCell (timsOf (D.recs (2 : Nat) g.snd.length (timCell g.snd)))))).length (timCell (timsOf (D.recs (2 : Nat) (timsOf (D.recs (2 : Nat) g.snd.length (timCell g.snd))).length (timCell (timsOf (D.recs (2 : Nat) g.snd.length (timCell g.snd))))))))) (↑g.fst : Int).toNat (IntKind.i64.wrap (IntKind.i64.wrap (IntKind.i64.wrap ((2 : Int) * (↑g.fst : Int)) + (1 : Int)) + (1 : Int))).toNat).length →
  ∀ (j : Nat), j < (2 : Nat) → timCell (swpL (timsOf (D.recs (2 : Nat) (timsOf (D.recs (2 : Nat) (timsOf (D.recs (2 : Nat) g.snd.length (timCell g.snd))).length (timCell (timsOf (D.recs (2 : Nat) g.snd.length (timCell g.snd)))))).length (timCell (timsOf (D.recs (2 : Nat) (timsOf (D.recs (2 : Nat) g.snd.length (timCell g.snd))).length (timCell (timsOf (D.recs (2 : Nat) g.snd.length (timCell g.snd))))))))) (↑g.fst : Int).toNat (IntKind.i64.wrap (IntKind.i64.wrap (IntKind.i64.wrap ((2 : Int) * (↑g.fst : Int)) + (1 : Int)) + (1 : Int))).toNat) i_1 j = timCell g'.snd i_1 j) ∧
  w.ks = w.ks ∧ posL (Whl.mk (swpL (timsOf (D.recs (2 : Nat) (timsOf (D.recs (2 : Nat) (timsOf (D.recs (2 : Nat) g.snd.length (timCell g.snd))).length (timCell (timsOf (D.recs (2 : Nat) g.snd.length (timCell g.snd)))))).length (timCell (timsOf (D.recs (2 : Nat) (timsOf (D.recs (2 : Nat) g.snd.length (timCell g.snd))).length (timCell (timsOf (D.recs (2 : Nat) g.snd.length (timCell g.snd))))))))) (↑g.fst : Int).toNat (IntKind.i64.wrap (IntKind.i64.wrap (IntKind.i64.wrap ((2 : Int) * (↑g.fst : Int)) + (1 : Int)) + (1 : Int))).toNat) w.ks) = posL (Whl.mk g'.snd w.ks) ∧
  (!(Nat.beq (9 : Nat) (2 : Nat) || (Nat.beq (10 : Nat) (2 : Nat) || false)) && (!(Nat.beq (10 : Nat) (9 : Nat) || false) && (!false && true)) && true && ((Nat.ble (3 : Nat) (2 : Nat) || (Nat.beq (2 : Nat) (2 : Nat) || (Nat.beq (0 : Nat) (2 : Nat) || (Nat.beq (1 : Nat) (2 : Nat) || false)))) && ((Nat.ble (3 : Nat) (9 : Nat) || (Nat.beq (2 : Nat) (9 : Nat) || (Nat.beq (0 : Nat) (9 : Nat) || (Nat.beq (1 : Nat) (9 : Nat) || false)))) && ((Nat.ble (3 : Nat) (10 : Nat) || (Nat.beq (2 : Nat) (10 : Nat) || (Nat.beq (0 : Nat) (10 : Nat) || (Nat.beq (1 : Nat) (10 : Nat) || false)))) && true)))) = true) ∧
  (some (SV.c (Value.int IntKind.i64 (↑i : Int))) = some (SV.c (Value.int IntKind.i64 (↑i : Int))) ∧ some (SV.b false) = some (SV.b false) ∧ some (SV.i (186 : Nat) (SV.p (2 : Nat) (0 : Nat))) = some (SV.i (186 : Nat) (SV.p (2 : Nat) (0 : Nat))) ∧
  some (SV.c (Value.int IntKind.i64 (↑i : Int))) = some (SV.c (Value.int IntKind.i64 (↑i : Int))) ∧ some (SV.c (Value.int IntKind.i64 (↑n : Int))) = some (SV.c (Value.int IntKind.i64 (↑n : Int))) ∧
  True) ∧ True)) ((∃ (w_1 : Whl), ∃ (i_1 : Nat), ∃ (j : Nat), [O.ptr (183 : Nat) [O.own (99 : Nat) (D.recs (2 : Nat) (timsOf (D.recs (2 : Nat) g.snd.length (timCell g.snd))).length (timCell (timsOf (D.recs (2 : Nat) g.snd.length (timCell g.snd))))), O.map (Col.ints IntKind.i64 w.ks) (Col.ints IntKind.i64 (posL (Whl.mk (timsOf (D.recs (2 : Nat) g.snd.length (timCell g.snd))) w.ks)))], O.d (D.v (Value.int IntKind.i64 (IntKind.i64.wrap (IntKind.i64.wrap ((2 : Int) * (↑g.fst : Int)) + (1 : Int))))), O.d (D.v (Value.int IntKind.i64 (↑g.fst : Int)))] = [O.ptr (183 : Nat) [O.own (99 : Nat) (D.recs (2 : Nat) w_1.l.length (timCell w_1.l)), O.map (Col.ints IntKind.i64 w_1.ks) (Col.ints IntKind.i64 (posL w_1))], O.d (D.v (Value.int IntKind.i64 (↑i_1 : Int))), O.d (D.v (Value.int IntKind.i64 (↑j : Int)))] ∧
  w_1.l.length ≤ (4096 : Nat) ∧ i_1 < w_1.l.length ∧ j < w_1.l.length) ∧ sw (!ltT (tf (timsOf (D.recs (2 : Nat) (timsOf (D.recs (2 : Nat) g.snd.length (timCell g.snd))).length (timCell (timsOf (D.recs (2 : Nat) g.snd.length (timCell g.snd)))))) (IntKind.i64.wrap (IntKind.i64.wrap ((2 : Int) * (↑g.fst : Int)) + (1 : Int))).toNat) (tf (timsOf (D.recs (2 : Nat) (timsOf (D.recs (2 : Nat) g.snd.length (timCell g.snd))).length (timCell (timsOf (D.recs (2 : Nat) g.snd.length (timCell g.snd)))))) (↑g.fst : Int).toNat)) (True ∧
  ((timsOf (D.recs (2 : Nat) (timsOf (D.recs (2 : Nat) g.snd.length (timCell g.snd))).length (timCell (timsOf (D.recs (2 : Nat) g.snd.length (timCell g.snd)))))).length = (downT (timsOf (D.recs (2 : Nat) w.l.length (timCell w.l))) (↑i : Int).toNat (↑n : Int).toNat).fst.length ∧
  ∀ (i_1 : Nat), i_1 < (timsOf (D.recs (2 : Nat) (timsOf (D.recs (2 : Nat) g.snd.length (timCell g.snd))).length (timCell (timsOf (D.recs (2 : Nat) g.snd.length (timCell g.snd)))))).length →
  ∀ (j : Nat), j < (2 : Nat) → timCell (timsOf (D.recs (2 : Nat) (timsOf (D.recs (2 : Nat) g.snd.length (timCell g.snd))).length (timCell (timsOf (D.recs (2 : Nat) g.snd.length (timCell g.snd)))))) i_1 j = timCell (downT (timsOf (D.recs (2 : Nat) w.l.length (timCell w.l))) (↑i : Int).toNat (↑n : Int).toNat).fst i_1 j) ∧
  w.ks = w.ks ∧ posL (Whl.mk (timsOf (D.recs (2 : Nat) (timsOf (D.recs (2 : Nat) g.snd.length (timCell g.snd))).length (timCell (timsOf (D.recs (2 : Nat) g.snd.length (timCell g.snd)))))) w.ks) = posL (Whl.mk (downT (timsOf (D.recs (2 : Nat) w.l.length (timCell w.l))) (↑i : Int).toNat (↑n : Int).toNat).fst w.ks) ∧
  decide ((↑i : Int) < (↑g.fst : Int)) = decide ((↑i : Int).toNat < (downT (timsOf (D.recs (2 : Nat) w.l.length (timCell w.l))) (↑i : Int).toNat (↑n : Int).toNat).snd) ∧
  (!(Nat.beq (7 : Nat) (2 : Nat) || (Nat.beq (8 : Nat) (2 : Nat) || false)) && (!(Nat.beq (8 : Nat) (7 : Nat) || false) && (!false && true)) && true) = true) ((∃ (w_1 : Whl), ∃ (i_1 : Nat), ∃ (j : Nat), [O.ptr (183 : Nat) [O.own (99 : Nat) (D.recs (2 : Nat) (timsOf (D.recs (2 : Nat) (timsOf (D.recs (2 : Nat) g.snd.length (timCell g.snd))).length (timCell (timsOf (D.recs (2 : Nat) g.snd.length (timCell g.snd)))))).length (timCell (timsOf (D.recs (2 : Nat) (timsOf (D.recs (2 : Nat) g.snd.length (timCell g.snd))).length (timCell (timsOf (D.recs (2 : Nat) g.snd.length (timCell g.snd)))))))), O.map (Col.ints IntKind.i64 w.ks) (Col.ints IntKind.i64 (posL (Whl.mk (timsOf (D.recs (2 : Nat) (timsOf (D.recs (2 : Nat) g.snd.length (timCell g.snd))).length (timCell (timsOf (D.recs (2 : Nat) g.snd.length (timCell g.snd)))))) w.ks)))], O.d (D.v (Value.int IntKind.i64 (↑g.fst : Int))), O.d (D.v (Value.int IntKind.i64 (IntKind.i64.wrap (IntKind.i64.wrap ((2 : Int) * (↑g.fst : Int)) + (1 : Int)))))] = [O.ptr (183 : Nat) [O.own (99 : Nat) (D.recs (2 : Nat) w_1.l.length (timCell w_1.l)), O.map (Col.ints IntKind.i64 w_1.ks) (Col.ints IntKind.i64 (posL w_1))], O.d (D.v (Value.int IntKind.i64 (↑i_1 : Int))), O.d (D.v (Value.int IntKind.i64 (↑j : Int)))] ∧
  okW w_1 ∧ i_1 < w_1.l.length ∧ j < w_1.l.length) ∧ ∃ (g' : Nat × List Tim), (okW (Whl.mk g'.snd w.ks) ∧ g'.fst < g'.snd.length ∧ n ≤ g'.snd.length ∧ i ≤ g'.fst ∧
  downT g'.snd g'.fst n = downT w.l i n) ∧ w.l.length - g'.fst < w.l.length - g.fst ∧ (IntKind.i64.wrap (IntKind.i64.wrap ((2 : Int) * (↑g.fst : Int)) + (1 : Int)) = (↑g'.fst : Int) ∧
  ((swpL (timsOf (D.recs (2 : Nat) (timsOf (D.recs (2 : Nat) (timsOf (D.recs (2 : Nat) g.snd.length (timCell g.snd))).length (timCell (timsOf (D.recs (2 : Nat) g.snd.length (timCell g.snd)))))).length (timCell (timsOf (D.recs (2 : Nat) (timsOf (D.recs (2 : Nat) g.snd.length (timCell g.snd))).length (timCell (timsOf (D.recs (2 : Nat) g.snd.length (timCell g.snd))))))))) (↑g.fst : Int).toNat (IntKind.i64.wrap (IntKind.i64.wrap ((2 : Int) * (↑g.fst : Int)) + (1 : Int))).toNat).length = g'.snd.length ∧
  ∀ (i_1 : Nat), i_1 < (swpL (timsOf (D.recs (2 : Nat) (timsOf (D.recs (2 : Nat) (timsOf (D.recs (2 : Nat) g.snd.length (timCell g.snd))).length (timCell (timsOf (D.recs (2 : Nat) g.snd.length (timCell g.snd)))))).length (timCell (timsOf (D.recs (2 : Nat) (timsOf (D.recs (2 : Nat) g.snd.length (timCell g.snd))).length (timCell (timsOf (D.recs (2 : Nat) g.snd.length (timCell g.snd))))))))) (↑g.fst : Int).toNat (IntKind.i64.wrap (IntKind.i64.wrap ((2 : Int) * (↑g.fst : Int)) + (1 : Int))).toNat).length →
  ∀ (j : Nat), j < (2 : Nat) → timCell (swpL (timsOf (D.recs (2 : Nat) (timsOf (D.recs (2 : Nat) (timsOf (D.recs (2 : Nat) g.snd.length (timCell g.snd))).length (timCell (timsOf (D.recs (2 : Nat) g.snd.length (timCell g.snd)))))).length (timCell (timsOf (D.recs (2 : Nat) (timsOf (D.recs (2 : Nat) g.snd.length (timCell g.snd))).length (timCell (timsOf (D.recs (2 : Nat) g.snd.length (timCell g.snd))))))))) (↑g.fst : Int).toNat (IntKind.i64.wrap (IntKind.i64.wrap ((2 : Int) * (↑g.fst : Int)) + (1 : Int))).toNat) i_1 j = timCell g'.snd i_1 j) ∧
  w.ks = w.ks ∧ posL (Whl.mk (swpL (timsOf (D.recs (2 : Nat) (timsOf (D.recs (2 : Nat) (timsOf (D.recs (2 : Nat) g.snd.length (timCell g.snd))).length (timCell (timsOf (D.recs (2 : Nat) g.snd.length (timCell g.snd)))))).length (timCell (timsOf (D.recs (2 : Nat) (timsOf (D.recs (2 : Nat) g.snd.length (timCell g.snd))).length (timCell (timsOf (D.recs (2 : Nat) g.snd.length (timCell g.snd))))))))) (↑g.fst : Int).toNat (IntKind.i64.wrap (IntKind.i64.wrap ((2 : Int) * (↑g.fst : Int)) + (1 : Int))).toNat) w.ks) = posL (Whl.mk g'.snd w.ks) ∧
  (!(Nat.beq (9 : Nat) (2 : Nat) || (Nat.beq (10 : Nat) (2 : Nat) || false)) && (!(Nat.beq (10 : Nat) (9 : Nat) || false) && (!false && true)) && true && ((Nat.ble (3 : Nat) (2 : Nat) || (Nat.beq (2 : Nat) (2 : Nat) || (Nat.beq (0 : Nat) (2 : Nat) || (Nat.beq (1 : Nat) (2 : Nat) || false)))) && ((Nat.ble (3 : Nat) (9 : Nat) || (Nat.beq (2 : Nat) (9 : Nat) || (Nat.beq (0 : Nat) (9 : Nat) || (Nat.beq (1 : Nat) (9 : Nat) || false)))) && ((Nat.ble (3 : Nat) (10 : Nat) || (Nat.beq (2 : Nat) (10 : Nat) || (Nat.beq (0 : Nat) (10 : Nat) || (Nat.beq (1 : Nat) (10 : Nat) || false)))) && true)))) = true) ∧
  (some (SV.c (Value.int IntKind.i64 (↑i : Int))) = some (SV.c (Value.int IntKind.i64 (↑i : Int))) ∧ some (SV.b false) = some (SV.b false) ∧ some (SV.i (186 : Nat) (SV.p (2 : Nat) (0 : Nat))) = some (SV.i (186 : Nat) (SV.p (2 : Nat) (0 : Nat))) ∧
  some (SV.c (Value.int IntKind.i64 (↑i : Int))) = some (SV.c (Value.int IntKind.i64 (↑i : Int))) ∧ some (SV.c (Value.int IntKind.i64 (↑n : Int))) = some (SV.c (Value.int IntKind.i64 (↑n : Int))) ∧
  True) ∧ True))) ((∃ (w_1 : Whl), ∃ (i_1 : Nat), ∃ (j : Nat), [O.ptr (183 : Nat) [O.own (99 : Nat) (D.recs (2 : Nat) g.snd.length (timCell g.snd)), O.map (Col.ints IntKind.i64 w.ks) (Col.ints IntKind.i64 (posL (Whl.mk g.snd w.ks)))], O.d (D.v (Value.int IntKind.i64 (IntKind.i64.wrap (IntKind.i64.wrap ((2 : Int) * (↑g.fst : Int)) + (1 : Int))))), O.d (D.v (Value.int IntKind.i64 (↑g.fst : Int)))] = [O.ptr (183 : Nat) [O.own (99 : Nat) (D.recs (2 : Nat) w_1.l.length (timCell w_1.l)), O.map (Col.ints IntKind.i64 w_1.ks) (Col.ints IntKind.i64 (posL w_1))], O.d (D.v (Value.int IntKind.i64 (↑i_1 : Int))), O.d (D.v (Value.int IntKind.i64 (↑j : Int)))] ∧
  w_1.l.length ≤ (4096 : Nat) ∧ i_1 < w_1.l.length ∧ j < w_1.l.length) ∧ sw (!ltT (tf (timsOf (D.recs (2 : Nat) g.snd.length (timCell g.snd))) (IntKind.i64.wrap (IntKind.i64.wrap ((2 : Int) * (↑g.fst : Int)) + (1 : Int))).toNat) (tf (timsOf (D.recs (2 : Nat) g.snd.length (timCell g.snd))) (↑g.fst : Int).toNat)) (True ∧
  ((timsOf (D.recs (2 : Nat) g.snd.length (timCell g.snd))).length = (downT (timsOf (D.recs (2 : Nat) w.l.length (timCell w.l))) (↑i : Int).toNat (↑n : Int).toNat).fst.length ∧
  ∀ (i_1 : Nat), i_1 < (timsOf (D.recs (2 : Nat) g.snd.length (timCell g.snd))).length → ∀ (j : Nat), j < (2 : Nat) → timCell (timsOf (D.recs (2 : Nat) g.snd.length (timCell g.snd))) i_1 j = timCell (downT (timsOf (D.recs (2 : Nat) w.l.length (timCell w.l))) (↑i : Int).toNat (↑n : Int).toNat).fst i_1 j) ∧
  w.ks = w.ks ∧ posL (Whl.mk (timsOf (D.recs (2 : Nat) g.snd.length (timCell g.snd))) w.ks) = posL (Whl.mk (downT (timsOf (D.recs (2 : Nat) w.l.length (timCell w.l))) (↑i : Int).toNat (↑n : Int).toNat).fst w.ks) ∧
  decide ((↑i : Int) < (↑g.fst : Int)) = decide ((↑i : Int).toNat < (downT (timsOf (D.recs (2 : Nat) w.l.length (timCell w.l))) (↑i : Int).toNat (↑n : Int).toNat).snd) ∧
  (!(Nat.beq (5 : Nat) (2 : Nat) || (Nat.beq (6 : Nat) (2 : Nat) || false)) && (!(Nat.beq (6 : Nat) (5 : Nat) || false) && (!false && true)) && true) = true) ((∃ (w_1 : Whl), ∃ (i_1 : Nat), ∃ (j : Nat), [O.ptr (183 : Nat) [O.own (99 : Nat) (D.recs (2 : Nat) (timsOf (D.recs (2 : Nat) g.snd.length (timCell g.snd))).length (timCell (timsOf (D.recs (2 : Nat) g.snd.length (timCell g.snd))))), O.map (Col.ints IntKind.i64 w.ks) (Col.ints IntKind.i64 (posL (Whl.mk (timsOf (D.recs (2 : Nat) g.snd.length (timCell g.snd))) w.ks)))], O.d (D.v (Value.int IntKind.i64 (↑g.fst : Int))), O.d (D.v (Value.int IntKind.i64 (IntKind.i64.wrap (IntKind.i64.wrap ((2 : Int) * (↑g.fst : Int)) + (1 : Int)))))] = [O.ptr (183 : Nat) [O.own (99 : Nat) (D.recs (2 : Nat) w_1.l.length (timCell w_1.l)), O.map (Col.ints IntKind.i64 w_1.ks) (Col.ints IntKind.i64 (posL w_1))], O.d (D.v (Value.int IntKind.i64 (↑i_1 : Int))), O.d (D.v (Value.int IntKind.i64 (↑j : Int)))] ∧
  okW w_1 ∧ i_1 < w_1.l.length ∧ j < w_1.l.length) ∧ ∃ (g' : Nat × List Tim), (okW (Whl.mk g'.snd w.ks) ∧ g'.fst < g'.snd.length ∧ n ≤ g'.snd.length ∧ i ≤ g'.fst ∧
  downT g'.snd g'.fst n = downT w.l i n) ∧ w.l.length - g'.fst < w.l.length - g.fst ∧ (IntKind.i64.wrap (IntKind.i64.wrap ((2 : Int) * (↑g.fst : Int)) + (1 : Int)) = (↑g'.fst : Int) ∧
  ((swpL (timsOf (D.recs (2 : Nat) (timsOf (D.recs (2 : Nat) g.snd.length (timCell g.snd))).length (timCell (timsOf (D.recs (2 : Nat) g.snd.length (timCell g.snd)))))) (↑g.fst : Int).toNat (IntKind.i64.wrap (IntKind.i64.wrap ((2 : Int) * (↑g.fst : Int)) + (1 : Int))).toNat).length = g'.snd.length ∧
  ∀ (i_1 : Nat), i_1 < (swpL (timsOf (D.recs (2 : Nat) (timsOf (D.recs (2 : Nat) g.snd.length (timCell g.snd))).length (timCell (timsOf (D.recs (2 : Nat) g.snd.length (timCell g.snd)))))) (↑g.fst : Int).toNat (IntKind.i64.wrap (IntKind.i64.wrap ((2 : Int) * (↑g.fst : Int)) + (1 : Int))).toNat).length →
  ∀ (j : Nat), j < (2 : Nat) → timCell (swpL (timsOf (D.recs (2 : Nat) (timsOf (D.recs (2 : Nat) g.snd.length (timCell g.snd))).length (timCell (timsOf (D.recs (2 : Nat) g.snd.length (timCell g.snd)))))) (↑g.fst : Int).toNat (IntKind.i64.wrap (IntKind.i64.wrap ((2 : Int) * (↑g.fst : Int)) + (1 : Int))).toNat) i_1 j = timCell g'.snd i_1 j) ∧
  w.ks = w.ks ∧ posL (Whl.mk (swpL (timsOf (D.recs (2 : Nat) (timsOf (D.recs (2 : Nat) g.snd.length (timCell g.snd))).length (timCell (timsOf (D.recs (2 : Nat) g.snd.length (timCell g.snd)))))) (↑g.fst : Int).toNat (IntKind.i64.wrap (IntKind.i64.wrap ((2 : Int) * (↑g.fst : Int)) + (1 : Int))).toNat) w.ks) = posL (Whl.mk g'.snd w.ks) ∧
  (!(Nat.beq (7 : Nat) (2 : Nat) || (Nat.beq (8 : Nat) (2 : Nat) || false)) && (!(Nat.beq (8 : Nat) (7 : Nat) || false) && (!false && true)) && true && ((Nat.ble (3 : Nat) (2 : Nat) || (Nat.beq (2 : Nat) (2 : Nat) || (Nat.beq (0 : Nat) (2 : Nat) || (Nat.beq (1 : Nat) (2 : Nat) || false)))) && ((Nat.ble (3 : Nat) (7 : Nat) || (Nat.beq (2 : Nat) (7 : Nat) || (Nat.beq (0 : Nat) (7 : Nat) || (Nat.beq (1 : Nat) (7 : Nat) || false)))) && ((Nat.ble (3 : Nat) (8 : Nat) || (Nat.beq (2 : Nat) (8 : Nat) || (Nat.beq (0 : Nat) (8 : Nat) || (Nat.beq (1 : Nat) (8 : Nat) || false)))) && true)))) = true) ∧
  (some (SV.c (Value.int IntKind.i64 (↑i : Int))) = some (SV.c (Value.int IntKind.i64 (↑i : Int))) ∧ some (SV.b false) = some (SV.b false) ∧ some (SV.i (186 : Nat) (SV.p (2 : Nat) (0 : Nat))) = some (SV.i (186 : Nat) (SV.p (2 : Nat) (0 : Nat))) ∧
  some (SV.c (Value.int IntKind.i64 (↑i : Int))) = some (SV.c (Value.int IntKind.i64 (↑i : Int))) ∧ some (SV.c (Value.int IntKind.i64 (↑n : Int))) = some (SV.c (Value.int IntKind.i64 (↑n : Int))) ∧
  True) ∧ True)))) := by
  simp only [↓sw_iff, ↓Bool.and_eq_true, ↓decide_eq_true_eq, ↓decide_eq_false_iff_not, ↓Bool.not_eq_true', ↓Bool.not_eq_false', true_and, and_true, Bool.or_false, Bool.false_or, Nat.ble, Nat.beq, Int.toNat_natCast, timsOf_cell, Int.toNat_natCast]
  intro w i n h hi hn
  refine ⟨(i, w.l), ⟨h, hi, hn, Nat.le_refl _, rfl⟩, rfl, ⟨rfl, fun i hi k hk => rfl⟩, rfl, ?_⟩
  rintro ⟨c, l⟩ ⟨h1, h2, h3, h4, h5⟩
  simp only at h1 h2 h3 h4 h5 ⊢
  have hl : l.length ≤ 4096 := h1.2.2
  have w1 : IntKind.i64.wrap ((2 : Int) * c) = ((2 * c : Nat) : Int) := (wrap_i64_id (by omega) (by omega)).trans (by omega)
  have w2 : IntKind.i64.wrap (((2 * c : Nat) : Int) + 1) = ((2 * c + 1 : Nat) : Int) := wrap_i64_id (by omega) (by omega)
  have w3' : IntKind.i64.wrap (((2 * c + 1 : Nat) : Int) + 1) = ((2 * c + 2 : Nat) : Int) := wrap_i64_id (by omega) (by omega)
  simp only [w1, w2, w3', Int.toNat_natCast]
  have hlen : l.length = w.l.length := by
    have := congrArg (fun x => x.1.length) h5
    simpa only [downT_len] using this
  have stop : downT l c n = (l, c) → (l.length = (downT w.l i n).1.length ∧ ∀ i_1, i_1 < l.length → ∀ j, j < 2 → timCell l i_1 j = timCell (downT w.l i n).1 i_1 j) ∧ posL ⟨l, w.ks⟩ = posL ⟨(downT w.l i n).1, w.ks⟩ ∧ decide ((i : Int) < (c : Int)) = decide (i < (downT w.l i n).2) := fun e => by
    rw [← h5, e]
    exact ⟨⟨rfl, fun _ _ _ _ => rfl⟩, rfl, by simp⟩
  have step : ∀ k : Nat, kid (tf l) c n = k → 2 * c + 1 < n → ltT (tf l k) (tf l c) = true → ∃ g' : Nat × List Tim, (okW ⟨g'.2, w.ks⟩ ∧ g'.1 < g'.2.length ∧ n ≤ g'.2.length ∧ i ≤ g'.1 ∧ downT g'.2 g'.1 n = downT w.l i n) ∧ w.l.length - g'.1 < w.l.length - c ∧ (k : Int) = (g'.1 : Int) ∧
      ((swpL l c k).length = g'.2.length ∧ ∀ i_1, i_1 < (swpL l c k).length → ∀ j, j < 2 → timCell (swpL l c k) i_1 j = timCell g'.2 i_1 j) ∧ posL ⟨swpL l c k, w.ks⟩ = posL ⟨g'.2, w.ks⟩ := fun k hk hlt ht => by
    have kl := kid_lt (f := tf l) hlt
    rw [hk] at kl
    refine ⟨(k, swpL l c k), ⟨swpL_ok h1 h2 (show k < l.length by omega), by rw [swpL_len]; omega, by rw [swpL_len]; exact h3, by simp only; omega, ?_⟩, by simp only; omega, rfl, ⟨rfl, fun _ _ _ _ => rfl⟩, rfl⟩
    have s := downT_step h3 hlt (by rw [hk]; exact ht)
    rw [hk] at s
    exact s.symm.trans h5
  have low (hlt : 2 * c + 1 < n) (hno : ¬ (2 * c + 2 < n ∧ ltT (tf l (2 * c + 2)) (tf l (2 * c + 1)) = true)) : kid (tf l) c n = 2 * c + 1 := if_neg hno
  refine ⟨fun hle => stop (downT_stop (.inl (by omega))), fun hgt => ⟨fun hneg => absurd hneg (by omega), fun _ => ⟨fun h22 => ⟨⟨⟨l, w.ks⟩, 2 * c + 2, 2 * c + 1, rfl, hl, show 2 * c + 2 < l.length by omega, show 2 * c + 1 < l.length by omega⟩, fun hlt => ?_, fun hlf => ?_⟩, fun h22 => ?_⟩⟩⟩
  · have hk : kid (tf l) c n = 2 * c + 2 := if_pos ⟨by omega, hlt⟩
    exact ⟨⟨⟨l, w.ks⟩, 2 * c + 2, c, rfl, hl, show 2 * c + 2 < l.length by omega, h2⟩, fun hf => stop (downT_stop (.inr (by rw [hk]; exact hf))), fun ht => ⟨⟨⟨l, w.ks⟩, c, 2 * c + 2, rfl, h1, h2, show 2 * c + 2 < l.length by omega⟩, step _ hk (by omega) ht⟩⟩
  · have hk := low (by omega) (fun e => by rw [e.2] at hlf; cases hlf)
    exact ⟨⟨⟨l, w.ks⟩, 2 * c + 1, c, rfl, hl, show 2 * c + 1 < l.length by omega, h2⟩, fun hf => stop (downT_stop (.inr (by rw [hk]; exact hf))), fun ht => ⟨⟨⟨l, w.ks⟩, c, 2 * c + 1, rfl, h1, h2, show 2 * c + 1 < l.length by omega⟩, step _ hk (by omega) ht⟩⟩
  · have hk := low (by omega) (fun e => absurd e.1 (by omega))
    exact ⟨⟨⟨l, w.ks⟩, 2 * c + 1, c, rfl, hl, show 2 * c + 1 < l.length by omega, h2⟩, fun hf => stop (downT_stop (.inr (by rw [hk]; exact hf))), fun ht => ⟨⟨⟨l, w.ks⟩, c, 2 * c + 1, rfl, h1, h2, show 2 * c + 1 < l.length by omega⟩, step _ hk (by omega) ht⟩⟩
set_option maxRecDepth 100000 in
theorem ok133 : FnIs Try.prog 133 downC := by
  refine fnIs (C := (ctrs w3)) (by kernel_rfl) w3_ok Try.func133 (code := code133) (by kernel_rfl) (by kernel_rfl) ?_
  rintro a ⟨w, i, n, rfl, h, hi, hn⟩
  exact ⟨anns [(2, downA w i n)] [3, 6], kcast (vc133 w i n h hi hn) (by kernel_rfl)⟩

end Go.ZR

set_option maxRecDepth 100000
namespace Go.ZR
open Go.Z Go.ZM
theorem upF_beyond : ∀ (u : Nat) (f : Nat → Tim) {j k : Nat}, j < k → upF u f j k = f k
  | 0, _, _, _, _ => rfl
  | u + 1, f, j, k, hk => by
    unfold upF
    split
    · rfl
    · split
      · rfl
      · rw [upF_beyond u _ (by omega), swp_o (by omega) (by omega)]
theorem fl_drop (f : Nat → Tim) (n : Nat) : (fl f (n + 1)).dropLast = fl f n := by
  show ((List.range (n + 1)).map f).dropLast = _
  rw [range_succ_map, List.dropLast_concat]
theorem fl_congr {f g : Nat → Tim} {n : Nat} (h : ∀ k, k < n → f k = g k) : fl f n = fl g n := List.map_congr_left fun k hk => h k (List.mem_range.1 hk)
theorem push_eq (l : List Tim) (t : Tim) : upT (l ++ [t]) l.length = pushT l t := by
  unfold upT pushT
  rw [show (l ++ [t]).length = l.length + 1 by simp]
theorem pop_eq {l : List Tim} (h : 0 < l.length) : (downT (swpL l 0 (l.length - 1)) 0 (l.length - 1)).1.dropLast = popT l ∧ tf (downT (swpL l 0 (l.length - 1)) 0 (l.length - 1)).1 (l.length - 1) = tf l 0 := by
  obtain ⟨m, hm⟩ : ∃ m, l.length = m + 1 := ⟨l.length - 1, by omega⟩
  have e : l.length - 1 = m := by omega
  have c := (downF_congr (n := m) (m := m + 1) (by omega) m (f := tf (swpL l 0 m)) (g := swp (tf l) 0 m) (i := 0) (by omega) (fun k hk => tf_swpL (by omega))).1
  unfold popT popF downT
  rw [e, swpL_len, hm]
  refine ⟨by rw [fl_drop]; exact fl_congr fun k hk => c k (by omega), ?_⟩
  show tf (fl _ (m + 1)) m = _
  rw [tf_fl (by omega), c m (by omega), downF_beyond _ _ (Nat.le_refl _), swp_j]
def _root_.Go.ZM.fixL (l : List Tim) (i n : Nat) : List Tim := if i < (downT l i n).2 then (downT l i n).1 else upT (downT l i n).1 i
theorem fixL_len (l : List Tim) (i n : Nat) : (fixL l i n).length = l.length := by
  unfold fixL
  split
  · exact downT_len _ _ _
  · rw [upT_len, downT_len]
theorem fixL_at {l : List Tim} {i n : Nat} (hi : i < n) (hn : n ≤ l.length) {k : Nat} (hk : k < n) : tf (fixL l i n) k = fixF (tf l) i n k := by
  unfold fixL fixF
  by_cases h : i < (downT l i n).2
  · rw [if_pos h, if_pos (show (downF n (tf l) i n).2 > i from h)]
    exact tf_fl (by omega)
  · rw [if_neg h, if_neg (show ¬ (downF n (tf l) i n).2 > i from h)]
    unfold upT
    rw [tf_fl (by rw [downT_len]; omega), downT_len, upF_fuel l.length n _ (by omega) (by omega)]
    exact upF_congr n hi (fun m hm => tf_fl (by omega)) k hk
theorem fix_eq {l : List Tim} {i : Nat} (hi : i < l.length) : fixL l i l.length = fl (fixF (tf l) i l.length) l.length := by
  have h := fl_tf (fixL l i l.length)
  rw [fixL_len] at h
  rw [← h]
  exact fl_congr fun k hk => fixL_at hi (Nat.le_refl _) hk
theorem move_eq {l : List Tim} {k : Nat} (hk : k < l.length) (a : Int) : fixL (l.set k ⟨(tf l k).id, a⟩) k l.length = moveT l k a := by
  have h := fix_eq (l := l.set k ⟨(tf l k).id, a⟩) (i := k) (by simpa using hk)
  rw [List.length_set] at h
  exact h
theorem cut_eq {l : List Tim} {k : Nat} (hk : k < l.length) (h1 : k ≠ l.length - 1) :
    (fixL (swpL l k (l.length - 1)) k (l.length - 1)).dropLast = cutT l k ∧ tf (fixL (swpL l k (l.length - 1)) k (l.length - 1)) (l.length - 1) = tf l k := by
  obtain ⟨m, hm⟩ : ∃ m, l.length = m + 1 := ⟨l.length - 1, by omega⟩
  have e : l.length - 1 = m := by omega
  rw [e] at h1 ⊢
  have hlen : (swpL l k m).length = m + 1 := by rw [swpL_len, hm]
  have hi : k < m := by omega
  have hfl := fl_tf (fixL (swpL l k m) k m)
  rw [fixL_len, hlen] at hfl
  refine ⟨?_, ?_⟩
  · rw [← hfl, fl_drop]
    unfold cutT cutF
    rw [e, if_neg h1]
    refine fl_congr fun j hj => ?_
    rw [fixL_at hi (by omega) hj]
    unfold fixF
    have c := downF_congr (n := m) (m := m + 1) (by omega) m (f := tf (swpL l k m)) (g := swp (tf l) k m) (i := k) (by omega) (fun k hk => tf_swpL (by omega))
    rw [c.2]
    split
    · exact c.1 j (by omega)
    · exact upF_congr m hi (fun x hx => c.1 x (by omega)) j hj
  · unfold fixL
    have hd : ∀ i, tf (downT (swpL l k m) i m).1 m = tf l k := fun i => by
      unfold downT
      rw [tf_fl (by omega), downF_beyond _ _ (Nat.le_refl _), tf_swpL (by omega), swp_j]
    split
    · exact hd k
    · unfold upT
      rw [tf_fl (by rw [downT_len]; omega), upF_beyond _ _ hi, hd]
theorem cut_last {l : List Tim} {k : Nat} (hk : k < l.length) (h1 : k = l.length - 1) : l.dropLast = cutT l k := by
  obtain ⟨m, hm⟩ : ∃ m, l.length = m + 1 := ⟨l.length - 1, by omega⟩
  have e : l.length - 1 = m := by omega
  have hfl := fl_tf l
  rw [hm] at hfl
  unfold cutT cutF
  rw [if_pos h1, e]
  conv => lhs; rw [← hfl]
  rw [fl_drop]
theorem okW_perm {l l' : List Tim} {ks : List Int} (h : okW ⟨l, ks⟩) (hp : l'.Perm l) : okW ⟨l', ks⟩ :=
  ⟨(hp.map _).nodup_iff.2 h.1, h.2.1.trans (hp.map _).symm, by have := hp.length_eq; have := h.2.2; simp only at *; omega⟩
theorem upT_perm {l : List Tim} {j : Nat} (hj : j < l.length) : (upT l j).Perm l := (upF_perm l.length (tf l) hj).trans (.of_eq (fl_tf l))
theorem downF_perm' {n m : Nat} (hn : n ≤ m) : ∀ (u : Nat) (f : Nat → Tim) {i : Nat}, i < m → ((List.range m).map (downF u f i n).1).Perm ((List.range m).map f)
  | 0, _, _, _ => .refl _
  | u + 1, f, i, hi => by
    unfold downF
    by_cases h0 : n ≤ 2 * i + 1
    · rw [if_pos h0]
    · rw [if_neg h0]
      have hk := kid_lt (f := f) (i := i) (n := n) (by omega)
      split
      · exact .refl _
      · exact (downF_perm' hn u _ (by omega)).trans (swp_perm f hi (by omega))
theorem downT_perm {l : List Tim} {i n : Nat} (hi : i < l.length) (hn : n ≤ l.length) : (downT l i n).1.Perm l := (downF_perm' hn n (tf l) hi).trans (.of_eq (fl_tf l))
end Go.ZR

set_option maxRecDepth 100000
namespace Go.ZM
open Go.Z Go.ZR
def setW (w : Whl) (id a : Int) : Whl × Int :=
  if a < 0 ∨ 1099511627776 < a then (w, 1) else
  if id ∈ w.ks then (⟨moveT w.l (posI w.l id).toNat a, w.ks⟩, 0) else
  if 4096 ≤ w.l.length then (w, 10) else (⟨pushT w.l ⟨id, a⟩, w.ks ++ [id]⟩, 0)
def cancelW (w : Whl) (id : Int) : Whl × Int :=
  if id ∈ w.ks then (⟨cutT w.l (posI w.l id).toNat, w.ks.erase id⟩, 0) else (w, 8)
def popW (w : Whl) : Whl := ⟨popT w.l, w.ks.erase (tf w.l 0).id⟩
def dueK : Nat → Int → Whl → List Tim × Whl
  | 0, _, w => ([], w)
  | u + 1, now, w => if w.l.length = 0 ∨ now < (tf w.l 0).at_ then ([], w) else ((tf w.l 0) :: (dueK u now (popW w)).1, (dueK u now (popW w)).2)
def dueW (w : Whl) (now : Int) : List Tim × Whl := dueK w.l.length now w
def sortT (l : List Tim) : List Tim := l.mergeSort fun a b => !ltT b a
end Go.ZM
namespace Go.ZR
open Go.Z Go.ZM Go.Proofs
def ia (a : List O) (i : Nat) : Int := vi (dO (at_ a i))
def w4 : List (Nat × Ctr) := [(291, wLenC), (293, wPopC), (294, wPushC), (295, wSwapC), (134, upC), (133, downC)]
def hFixC : Ctr := hpC 1 (fun a => ∃ (w : Whl) (i : Nat), a = [whI w, iO .i64 (i : Int)] ∧ okW w ∧ i < w.l.length) (fun a => ⟨fixL (whA a).l (inA a 1) (whA a).l.length, (whA a).ks⟩) fun _ => []
def hPushC : Ctr := { hpC 1 (fun a => ∃ (w : Whl) (t : Tim), a = [whI w, timI t] ∧ okW w ∧ w.l.length < 4096 ∧ t.id ∉ w.ks) (fun a => ⟨pushT (whA a).l (timOfO (at_ a 1)), (whA a).ks ++ [(timOfO (at_ a 1)).id]⟩) fun _ => [] with own := [true, true] }
def hPopC : Ctr := hpC 0 (fun a => ∃ w : Whl, a = [whI w] ∧ okW w ∧ 0 < w.l.length) (fun a => popW (whA a)) fun a => [timI (tf (whA a).l 0)]
def hRemC : Ctr := hpC 1 (fun a => ∃ (w : Whl) (i : Nat), a = [whI w, iO .i64 (i : Int)] ∧ okW w ∧ i < w.l.length) (fun a => ⟨cutT (whA a).l (inA a 1), (whA a).ks.erase (tf (whA a).l (inA a 1)).id⟩) fun a => [timI (tf (whA a).l (inA a 1))]
def timsO (l : List Tim) : O := .own 99 (.recs 2 l.length (timCell l))
def newC : Ctr := { nC 0 false (fun a => a = []) (fun _ => [whO noW]) with ro := true }
def setC : Ctr := whC 2 (fun a => ∃ (w : Whl) (id x : Int), a = [whO w, iO .i64 id, iO .i64 x] ∧ okW w) (fun a => (setW (whA a) (ia a 1) (ia a 2)).1) fun a => [iO .i64 (setW (whA a) (ia a 1) (ia a 2)).2]
def cancelC : Ctr := whC 1 (fun a => ∃ (w : Whl) (id : Int), a = [whO w, iO .i64 id] ∧ okW w) (fun a => (cancelW (whA a) (ia a 1)).1) fun a => [iO .i64 (cancelW (whA a) (ia a 1)).2]
def nextC : Ctr := whC 0 (fun a => ∃ w : Whl, a = [whO w] ∧ okW w) whA fun a => [timO (tf (whA a).l 0), bO (!decide ((whA a).l.length = 0))]
def dueC : Ctr := whC 1 (fun a => ∃ (w : Whl) (now : Int), a = [whO w, iO .i64 now] ∧ okW w) (fun a => (dueW (whA a) (ia a 1)).2) fun a => [timsO (dueW (whA a) (ia a 1)).1]
def listC : Ctr := whC 0 (fun a => ∃ w : Whl, a = [whO w] ∧ okW w) whA fun a => [timsO (sortT (whA a).l)]
def w5 : List (Nat × Ctr) := [(93, hFixC), (94, hPushC), (96, hPopC), (101, hRemC)]
def w6 : List (Nat × Ctr) := [(95, nextC), (96, hPopC)]
end Go.ZR
