/- Part 14 of what the closing text rests on. -/
import Derived.Test.YtlbfenfepmmihaaI13
import Derived.Test.YtlbfenfepmmihaaRows
namespace Go.ZR
open Go.Proofs
open Go.Z Go.ZM Go.RowKit
set_option maxRecDepth 100000
theorem be_u64 (n : Int) : ∀ {k : Nat}, k ≤ 8 → be (IntKind.u64.wrap n) k = be n k
  | 0, _ => rfl
  | k + 1, h => by
    rw [be, be, be_u64 n (by omega)]
    congr 1
    rw [IntKind.wrap_u64]
    obtain ⟨j, hj⟩ : ∃ j : Nat, (18446744073709551616 : Int) = 256 ^ k * (256 * 256 ^ j) := ⟨7 - k, by
      rw [← Int.mul_assoc, ← Int.pow_succ, ← Int.pow_add, show k + 1 + (7 - k) = 8 by omega]; rfl⟩
    have e := Int.emod_add_mul_ediv n 18446744073709551616
    have q : ∀ q : Int, 18446744073709551616 * q = 256 ^ k * (256 * (256 ^ j * q)) := fun q => by rw [hj, Int.mul_assoc, Int.mul_assoc]
    have : n / 256 ^ k = (n % 18446744073709551616) / 256 ^ k + 256 * (256 ^ j * (n / 18446744073709551616)) := by
      conv => lhs; rw [← e, q]
      rw [Int.add_mul_ediv_left _ _ (by have := pow_pos' k; omega)]
    rw [this, Int.add_mul_emod_self_left]
theorem be_w8 (n : Int) : be (IntKind.u64.wrap n) 8 = be n 8 := be_u64 n (by decide)
theorem be_w4 (n : Int) : be (IntKind.u64.wrap n) 4 = be n 4 := be_u64 n (by decide)
theorem wr1 : IntKind.i64.wrap (0 + 1) = 1 := by decide
theorem wr2 : IntKind.i64.wrap (1 + 1) = 2 := by decide
theorem wr3 : IntKind.i64.wrap (2 + 1) = 3 := by decide
theorem wr4 : IntKind.i64.wrap (3 + 1) = 4 := by decide
theorem wr5 : IntKind.i64.wrap (4 + 1) = 5 := by decide
theorem wr6 : IntKind.i64.wrap (5 + 1) = 6 := by decide
theorem cru_eta (c : CruR) : CruR.mk c.time c.a c.b c.c c.d c.e c.f c.g = c := by cases c; rfl
theorem cruB_len (c : CruR) : (cruB c).length = 36 := by simp [cruB, be_len]
theorem cruB_okB (c : CruR) : okB (cruB c) := okB_append (okB_append (okB_append (okB_append (okB_append (okB_append (okB_append (be_ok _ _) (be_ok _ _)) (be_ok _ _)) (be_ok _ _)) (be_ok _ _)) (be_ok _ _)) (be_ok _ _)) (be_ok _ _)
theorem nAt_rng {v : List Int} (hv : okB v) (i : Int) {k : Nat} : 0 ≤ nAt v i k ∧ nAt v i k < 256 ^ k := by
  unfold nAt getF
  have h1 := part_ok hv i (k : Int)
  have h2 := val_lt h1
  have h3 := part_len (b := v) (i := i) (k := k)
  have h4 : ∀ a b : Nat, a ≤ b → (256 : Int) ^ a ≤ 256 ^ b := fun a b h => by
    obtain ⟨c, rfl⟩ := Nat.exists_eq_add_of_le h
    rw [Int.pow_add]
    have := pow_pos' a; have h5 := pow_pos' c
    calc (256 : Int) ^ a = 256 ^ a * 1 := by rw [Int.mul_one]
      _ ≤ 256 ^ a * 256 ^ c := Int.mul_le_mul_of_nonneg_left (by omega) (by omega)
  have := h4 _ _ h3
  exact ⟨val_nonneg h1, by omega⟩
theorem nAt4 {v : List Int} (hv : okB v) (i : Int) : IntKind.u32.wrap (nAt v i 4) = nAt v i 4 := by
  have h := nAt_rng hv i (k := 4)
  rw [show (256 : Int) ^ 4 = 4294967296 from rfl] at h
  rw [IntKind.wrap_u32]; omega
theorem nAt_eq (v : List Int) (i : Int) (k : Nat) : valF (partF v i (k : Int)).1 = nAt v i k := rfl
theorem fld_rng (i : Nat) (h : i < 7) : IntKind.i64.wrap (8 + IntKind.i64.wrap (4 * (i : Int))) = ((8 + 4 * i : Nat) : Int) := by
  rw [IntKind.wrap_i64, IntKind.wrap_i64]; omega
theorem fa0 : IntKind.i64.wrap (8 + IntKind.i64.wrap (4 * 0)) = 8 := by decide
theorem fa1 : IntKind.i64.wrap (8 + IntKind.i64.wrap (4 * 1)) = 12 := by decide
theorem fa2 : IntKind.i64.wrap (8 + IntKind.i64.wrap (4 * 2)) = 16 := by decide
theorem fa3 : IntKind.i64.wrap (8 + IntKind.i64.wrap (4 * 3)) = 20 := by decide
theorem fa4 : IntKind.i64.wrap (8 + IntKind.i64.wrap (4 * 4)) = 24 := by decide
theorem fa5 : IntKind.i64.wrap (8 + IntKind.i64.wrap (4 * 5)) = 28 := by decide
theorem fa6 : IntKind.i64.wrap (8 + IntKind.i64.wrap (4 * 6)) = 32 := by decide
theorem open_lt {k : Int} {b : List Int} (h : (b.length : Int) < 40) : openF k b = (noCru, 3) := by unfold openF; rw [if_pos (by omega)]
theorem open_gt {k : Int} {b : List Int} (h : 40 < (b.length : Int)) : openF k b = (noCru, 2) := by unfold openF; rw [if_neg (by omega), if_pos (by omega)]
theorem open_sum {k : Int} {b : List Int} (h : b.length = 40) (e : ¬ nAt b 36 4 = keyF k (b.take 36)) : openF k b = (noCru, 5) := by
  unfold openF; rw [if_neg (by omega), if_neg (by omega), if_pos e]
theorem open_bad {k : Int} {b : List Int} (h : b.length = 40) (e : nAt b 36 4 = keyF k (b.take 36)) (hs : ¬ soundF (cruOf b) = true) : openF k b = (noCru, 2) := by
  unfold openF; rw [if_neg (by omega), if_neg (by omega), if_neg (by simpa using e), if_neg hs]
theorem open_ok {k : Int} {b : List Int} (h : b.length = 40) (e : nAt b 36 4 = keyF k (b.take 36)) (hs : soundF (cruOf b) = true) : openF k b = (cruOf b, 0) := by
  unfold openF; rw [if_neg (by omega), if_neg (by omega), if_neg (by simpa using e), if_pos hs]
theorem wrap_sum_i (l : List Int) : IntKind.i64.wrap (sumF l) = sumF l := by
  have := iv_rng (~~~ crcR (~~~ bv 0) l)
  unfold sumF moreF
  rw [IntKind.wrap_i64]; omega
theorem fldL_zero (b : List Int) : List.replicate 7 0 = fldL b 0 := rfl
theorem fldL_set (b : List Int) {g : Nat} (_hg : g < 7) : (fldL b g).set g (nAt b ((8 + 4 * g : Nat) : Int) 4) = fldL b (g + 1) := by
  unfold fldL
  apply List.ext_getElem (by simp)
  intro i h1 h2
  rw [List.getElem_set]
  simp only [List.getElem_map, List.getElem_range]
  by_cases e : g = i
  · subst e
    rw [if_pos rfl, if_pos (by omega)]
  · rw [if_neg e]
    by_cases l : i < g
    · rw [if_pos l, if_pos (by omega)]
    · rw [if_neg l, if_neg (by omega)]
theorem sound_iff (b : List Int) (hb : okB b) : soundF (cruOf b) = true ↔ nAt b 0 8 ≤ 1099511627776 ∧ nAt b 8 4 ≠ 0 ∧ nAt b 12 4 ≠ 0 := by
  have h := nAt_rng hb 0 (k := 8)
  rw [show (256 : Int) ^ 8 = 18446744073709551616 from rfl] at h
  simp only [soundF, cruOf, sI, Bool.and_eq_true, decide_eq_true_eq, Bool.not_eq_true', decide_eq_false_iff_not, IntKind.wrap_i64]
  omega
noncomputable def code204 : Code := match Try.f204.body with | some c => c | none => .skip
@[reducible] noncomputable def q204_0 (x0 : CruR) : List O := [O.agg [iO .i64 x0.time, iO .u32 x0.a, iO .u32 x0.b, iO .u32 x0.c, iO .u32 x0.d, iO .u32 x0.e, iO .u32 x0.f, iO .u32 x0.g]]
@[reducible] noncomputable def q204_1 (x0 : List Int) (x1 : Int) (x2 : Nat) : List O := [O.d (D.ints IntKind.u8 x0), iO .u64 x1, iO .i64 (↑x2 : Int)]
@[reducible] def q204_2 (x0 : List Int) (x1 : Nat) : Prop := sm x0.length ∧ (1 : Nat) ≤ x1 ∧ x1 ≤ (8 : Nat)
@[reducible] noncomputable def q204_3 : Int := (↑(7 : Nat) : Int)
@[reducible] noncomputable def q204_4 : List O := [iO .i64 (4 : Int)]
@[reducible] noncomputable def q204_5 (x0 : CruR) : List Int := [] ++ be (IntKind.u64.wrap x0.time) (Int.toNat (8 : Int)) ++ be (IntKind.u64.wrap x0.a) (Int.toNat (4 : Int)) ++ be (IntKind.u64.wrap x0.b) (Int.toNat (4 : Int)) ++ be (IntKind.u64.wrap x0.c) (Int.toNat (4 : Int)) ++ be (IntKind.u64.wrap x0.d) (Int.toNat (4 : Int)) ++ be (IntKind.u64.wrap x0.e) (Int.toNat (4 : Int)) ++ be (IntKind.u64.wrap x0.f) (Int.toNat (4 : Int)) ++ be (IntKind.u64.wrap x0.g) (Int.toNat (4 : Int))
set_option maxHeartbeats 4000000 in
theorem vc204 : ∀ (k : Int) (c : CruR), okCru c → (∃ (c_1 : CruR), q204_0 c = q204_0 c_1) ∧ sw (!soundF (CruR.mk c.time c.a c.b c.c c.d c.e c.f c.g)) ((sealF k (CruR.mk c.time c.a c.b c.c c.d c.e c.f c.g)).fst = [] ∧
  (1 : Int) = (sealF k (CruR.mk c.time c.a c.b c.c c.d c.e c.f c.g)).snd ∧ true = true) ((∃ (b : List Int), ∃ (n : Int), ∃ (k_1 : Nat), [O.d (D.ints IntKind.u8 []), iO .u64 (IntKind.u64.wrap c.time), iO .i64 (8 : Int)] = q204_1 b n k_1 ∧
  q204_2 b k_1) ∧ (True ∧ ((0 : Int) ≤ (0 : Int) ∧ (0 : Int) < q204_3) ∧ (∃ (b : List Int), ∃ (n : Int), ∃ (k_1 : Nat), O.d (D.ints IntKind.u8 ([] ++ be (IntKind.u64.wrap c.time) (Int.toNat (8 : Int)))) :: iO .u64 (IntKind.u64.wrap c.a) :: q204_4 = q204_1 b n k_1 ∧
  q204_2 b k_1) ∧ True ∧ True ∧ ((0 : Int) ≤ IntKind.i64.wrap ((0 : Int) + (1 : Int)) ∧ IntKind.i64.wrap ((0 : Int) + (1 : Int)) < q204_3) ∧ (∃ (b : List Int), ∃ (n : Int), ∃ (k_1 : Nat), O.d (D.ints IntKind.u8 ([] ++ be (IntKind.u64.wrap c.time) (Int.toNat (8 : Int)) ++ be (IntKind.u64.wrap c.a) (Int.toNat (4 : Int)))) :: iO .u64 (IntKind.u64.wrap c.b) :: q204_4 = q204_1 b n k_1 ∧
  q204_2 b k_1) ∧ True ∧ True ∧ ((0 : Int) ≤ IntKind.i64.wrap (IntKind.i64.wrap ((0 : Int) + (1 : Int)) + (1 : Int)) ∧ IntKind.i64.wrap (IntKind.i64.wrap ((0 : Int) + (1 : Int)) + (1 : Int)) < q204_3) ∧
  (∃ (b : List Int), ∃ (n : Int), ∃ (k_1 : Nat), O.d (D.ints IntKind.u8 ([] ++ be (IntKind.u64.wrap c.time) (Int.toNat (8 : Int)) ++ be (IntKind.u64.wrap c.a) (Int.toNat (4 : Int)) ++ be (IntKind.u64.wrap c.b) (Int.toNat (4 : Int)))) :: iO .u64 (IntKind.u64.wrap c.c) :: q204_4 = q204_1 b n k_1 ∧
  q204_2 b k_1) ∧ True ∧ True ∧ ((0 : Int) ≤ IntKind.i64.wrap (IntKind.i64.wrap (IntKind.i64.wrap ((0 : Int) + (1 : Int)) + (1 : Int)) + (1 : Int)) ∧ IntKind.i64.wrap (IntKind.i64.wrap (IntKind.i64.wrap ((0 : Int) + (1 : Int)) + (1 : Int)) + (1 : Int)) < q204_3) ∧
  (∃ (b : List Int), ∃ (n : Int), ∃ (k_1 : Nat), O.d (D.ints IntKind.u8 ([] ++ be (IntKind.u64.wrap c.time) (Int.toNat (8 : Int)) ++ be (IntKind.u64.wrap c.a) (Int.toNat (4 : Int)) ++ be (IntKind.u64.wrap c.b) (Int.toNat (4 : Int)) ++ be (IntKind.u64.wrap c.c) (Int.toNat (4 : Int)))) :: iO .u64 (IntKind.u64.wrap c.d) :: q204_4 = q204_1 b n k_1 ∧
  q204_2 b k_1) ∧ True ∧ True ∧ ((0 : Int) ≤ IntKind.i64.wrap (IntKind.i64.wrap (IntKind.i64.wrap (IntKind.i64.wrap ((0 : Int) + (1 : Int)) + (1 : Int)) + (1 : Int)) + (1 : Int)) ∧
  IntKind.i64.wrap (IntKind.i64.wrap (IntKind.i64.wrap (IntKind.i64.wrap ((0 : Int) + (1 : Int)) + (1 : Int)) + (1 : Int)) + (1 : Int)) < q204_3) ∧ (∃ (b : List Int), ∃ (n : Int), ∃ (k_1 : Nat), O.d (D.ints IntKind.u8 ([] ++ be (IntKind.u64.wrap c.time) (Int.toNat (8 : Int)) ++ be (IntKind.u64.wrap c.a) (Int.toNat (4 : Int)) ++ be (IntKind.u64.wrap c.b) (Int.toNat (4 : Int)) ++ be (IntKind.u64.wrap c.c) (Int.toNat (4 : Int)) ++ be (IntKind.u64.wrap c.d) (Int.toNat (4 : Int)))) :: iO .u64 (IntKind.u64.wrap c.e) :: q204_4 = q204_1 b n k_1 ∧
  q204_2 b k_1) ∧ True ∧ True ∧ ((0 : Int) ≤ IntKind.i64.wrap (IntKind.i64.wrap (IntKind.i64.wrap (IntKind.i64.wrap (IntKind.i64.wrap ((0 : Int) + (1 : Int)) + (1 : Int)) + (1 : Int)) + (1 : Int)) + (1 : Int)) ∧
  IntKind.i64.wrap (IntKind.i64.wrap (IntKind.i64.wrap (IntKind.i64.wrap (IntKind.i64.wrap ((0 : Int) + (1 : Int)) + (1 : Int)) + (1 : Int)) + (1 : Int)) + (1 : Int)) < q204_3) ∧
  (∃ (b : List Int), ∃ (n : Int), ∃ (k_1 : Nat), O.d (D.ints IntKind.u8 ([] ++ be (IntKind.u64.wrap c.time) (Int.toNat (8 : Int)) ++ be (IntKind.u64.wrap c.a) (Int.toNat (4 : Int)) ++ be (IntKind.u64.wrap c.b) (Int.toNat (4 : Int)) ++ be (IntKind.u64.wrap c.c) (Int.toNat (4 : Int)) ++ be (IntKind.u64.wrap c.d) (Int.toNat (4 : Int)) ++ be (IntKind.u64.wrap c.e) (Int.toNat (4 : Int)))) :: iO .u64 (IntKind.u64.wrap c.f) :: q204_4 = q204_1 b n k_1 ∧
  q204_2 b k_1) ∧ True ∧ True ∧ ((0 : Int) ≤ IntKind.i64.wrap (IntKind.i64.wrap (IntKind.i64.wrap (IntKind.i64.wrap (IntKind.i64.wrap (IntKind.i64.wrap ((0 : Int) + (1 : Int)) + (1 : Int)) + (1 : Int)) + (1 : Int)) + (1 : Int)) + (1 : Int)) ∧
  IntKind.i64.wrap (IntKind.i64.wrap (IntKind.i64.wrap (IntKind.i64.wrap (IntKind.i64.wrap (IntKind.i64.wrap ((0 : Int) + (1 : Int)) + (1 : Int)) + (1 : Int)) + (1 : Int)) + (1 : Int)) + (1 : Int)) < q204_3) ∧
  (∃ (b : List Int), ∃ (n : Int), ∃ (k_1 : Nat), O.d (D.ints IntKind.u8 ([] ++ be (IntKind.u64.wrap c.time) (Int.toNat (8 : Int)) ++ be (IntKind.u64.wrap c.a) (Int.toNat (4 : Int)) ++ be (IntKind.u64.wrap c.b) (Int.toNat (4 : Int)) ++ be (IntKind.u64.wrap c.c) (Int.toNat (4 : Int)) ++ be (IntKind.u64.wrap c.d) (Int.toNat (4 : Int)) ++ be (IntKind.u64.wrap c.e) (Int.toNat (4 : Int)) ++ be (IntKind.u64.wrap c.f) (Int.toNat (4 : Int)))) :: iO .u64 (IntKind.u64.wrap c.g) :: q204_4 = q204_1 b n k_1 ∧
  q204_2 b k_1) ∧ True ∧ True ∧ (∃ (k_1 : Int), ∃ (b : List Int), [iO .u64 k, O.d (D.ints IntKind.u8 (q204_5 c))] = [iO .u64 k_1, O.d (D.ints IntKind.u8 b)] ∧
  b.length ≤ (1048576 : Nat) ∧ okB b) ∧ (∃ (b : List Int), ∃ (n : Int), ∃ (k_1 : Nat), O.d (D.ints IntKind.u8 (q204_5 c)) :: iO .u64 (keyF k (q204_5 c)) :: q204_4 = q204_1 b n k_1 ∧
  q204_2 b k_1) ∧ q204_5 c ++ be (keyF k (q204_5 c)) (Int.toNat (4 : Int)) = (sealF k (CruR.mk c.time c.a c.b c.c c.d c.e c.f c.g)).fst ∧ (0 : Int) = (sealF k (CruR.mk c.time c.a c.b c.c c.d c.e c.f c.g)).snd ∧
  (true && true && true) = true) ∧ True) := by
  delta q204_0 q204_1 q204_2 q204_3 q204_4 q204_5 iO
  simp only [↓sw_iff, ↓Bool.and_eq_true, ↓Bool.not_eq_true', ↓Bool.not_eq_false', true_and, and_true, List.nil_append, be_w8, be_w4, toNat8, toNat4, wr1, wr2, wr3, wr4, wr5, wr6, cru_eta]
  intro k c ok
  refine ⟨⟨c, rfl⟩, fun h => ?_, fun h => ?_⟩
  · unfold sealF
    rw [h]
    exact ⟨rfl, rfl⟩
  · have e : sealF k c = (sealB k c, 0) := by unfold sealF; rw [if_pos h]
    rw [e]
    repeat' apply And.intro
    all_goals first
      | omega
      | rfl
      | exact ⟨_, _, 8, rfl, by simp [sm], by omega, by omega⟩
      | exact ⟨_, _, 4, rfl, by simp [sm, be_len], by omega, by omega⟩
      | exact ⟨k, cruB c, rfl, by rw [cruB_len]; decide, cruB_okB c⟩
set_option maxRecDepth 100000 in
theorem ok204 : FnIs Try.prog 204 sealC := by
  refine fnIs (C := (ctrsJ Try.prog k5 i39 1)) (by kernel_rfl) (cokJ (by kernel_rfl) k5_ok i39_ok) Try.func204 (code := code204) (by kernel_rfl) (by kernel_rfl) ?_
  rintro a ⟨k, c, rfl, ok⟩
  exact ⟨anns [] [] [(5, 8)], kcast (vc204 k c ok) (by kernel_rfl)⟩

noncomputable def code211 : Code := match Try.f211.body with | some c => c | none => .skip
@[reducible] noncomputable def q211_0 (x0 : CruR) : Bool := !decide (x0.time < (0 : Int))
@[reducible] noncomputable def q211_1 (x0 : CruR) : Bool := decide (x0.time < (0 : Int)) || decide ((1099511627776 : Int) < x0.time)
@[reducible] def q211_2 (x0 : CruR) : Prop := [!q211_1 x0] = [!q211_1 x0]
@[reducible] noncomputable def q211_3 (x0 : CruR) : SV := SV.c (Value.bool (decide (x0.a = (0 : Int))))
@[reducible] noncomputable def q211_4 (x0 : CruR) : Bool := q211_1 x0 || decide (x0.a = (0 : Int))
@[reducible] def q211_5 (x0 : CruR) : Prop := [!q211_4 x0] = [!q211_4 x0]
@[reducible] noncomputable def q211_6 (x0 : CruR) : SV := SV.c (Value.bool (decide (x0.b = (0 : Int))))
@[reducible] noncomputable def q211_7 (x0 : List Int) (x1 : Int) (x2 : Nat) : List O := [O.d (D.ints IntKind.u8 x0), iO .u64 x1, iO .i64 (↑x2 : Int)]
@[reducible] def q211_8 (x0 : List Int) (x1 : Nat) : Prop := sm x0.length ∧ (1 : Nat) ≤ x1 ∧ x1 ≤ (8 : Nat)
@[reducible] noncomputable def q211_9 : List O := [iO .i64 (4 : Int)]
@[reducible] noncomputable def q211_10 (x0 : CruR) : List Int := [] ++ be (IntKind.u64.wrap x0.time) (Int.toNat (8 : Int)) ++ be (IntKind.u64.wrap x0.a) (Int.toNat (4 : Int)) ++ be (IntKind.u64.wrap x0.b) (Int.toNat (4 : Int)) ++ be (IntKind.u64.wrap x0.c) (Int.toNat (4 : Int)) ++ be (IntKind.u64.wrap x0.d) (Int.toNat (4 : Int)) ++ be (IntKind.u64.wrap x0.e) (Int.toNat (4 : Int)) ++ be (IntKind.u64.wrap x0.f) (Int.toNat (4 : Int)) ++ be (IntKind.u64.wrap x0.g) (Int.toNat (4 : Int))
set_option maxHeartbeats 4000000 in
theorem vc211 : ∀ (k : Int) (c : CruR), okCru c → True ∧ sw (q211_0 c) (SV.p (0 : Nat) (0 : Nat) = SV.p (0 : Nat) (0 : Nat)) True ∧ sw (q211_0 c) ([q211_0 c] = [q211_0 c] ∧
  SV.c (Value.int IntKind.i64 c.time) = SV.c (Value.int IntKind.i64 c.time)) True ∧ sw (q211_0 c) ([q211_0 c] = [q211_0 c] ∧ True ∧ SV.c (Value.bool (decide ((1099511627776 : Int) < c.time))) = SV.c (Value.bool (decide ((1099511627776 : Int) < c.time)))) True ∧
  [q211_0 c] = [q211_0 c] ∧ sw (!q211_1 c) (SV.p (0 : Nat) (1 : Nat) = SV.p (0 : Nat) (1 : Nat)) True ∧ sw (!q211_1 c) (q211_2 c ∧ SV.c (Value.int IntKind.u32 c.a) = SV.c (Value.int IntKind.u32 c.a)) True ∧
  sw (!q211_1 c) (q211_2 c ∧ True ∧ q211_3 c = q211_3 c) True ∧ q211_2 c ∧ sw (!q211_4 c) (SV.p (0 : Nat) (2 : Nat) = SV.p (0 : Nat) (2 : Nat)) True ∧ sw (!q211_4 c) (q211_5 c ∧
  SV.c (Value.int IntKind.u32 c.b) = SV.c (Value.int IntKind.u32 c.b)) True ∧ sw (!q211_4 c) (q211_5 c ∧ True ∧ q211_6 c = q211_6 c) True ∧ q211_5 c ∧ sw (q211_4 c || decide (c.b = (0 : Int))) ((sealF k (CruR.mk c.time c.a c.b c.c c.d c.e c.f c.g)).fst = [] ∧
  (1 : Int) = (sealF k (CruR.mk c.time c.a c.b c.c c.d c.e c.f c.g)).snd ∧ true = true) ((∃ (b : List Int), ∃ (n : Int), ∃ (k_1 : Nat), [O.d (D.ints IntKind.u8 []), iO .u64 (IntKind.u64.wrap c.time), iO .i64 (8 : Int)] = q211_7 b n k_1 ∧
  q211_8 b k_1) ∧ (∃ (b : List Int), ∃ (n : Int), ∃ (k_1 : Nat), O.d (D.ints IntKind.u8 ([] ++ be (IntKind.u64.wrap c.time) (Int.toNat (8 : Int)))) :: iO .u64 (IntKind.u64.wrap c.a) :: q211_9 = q211_7 b n k_1 ∧
  q211_8 b k_1) ∧ (∃ (b : List Int), ∃ (n : Int), ∃ (k_1 : Nat), O.d (D.ints IntKind.u8 ([] ++ be (IntKind.u64.wrap c.time) (Int.toNat (8 : Int)) ++ be (IntKind.u64.wrap c.a) (Int.toNat (4 : Int)))) :: iO .u64 (IntKind.u64.wrap c.b) :: q211_9 = q211_7 b n k_1 ∧
  q211_8 b k_1) ∧ (∃ (b : List Int), ∃ (n : Int), ∃ (k_1 : Nat), O.d (D.ints IntKind.u8 ([] ++ be (IntKind.u64.wrap c.time) (Int.toNat (8 : Int)) ++ be (IntKind.u64.wrap c.a) (Int.toNat (4 : Int)) ++ be (IntKind.u64.wrap c.b) (Int.toNat (4 : Int)))) :: iO .u64 (IntKind.u64.wrap c.c) :: q211_9 = q211_7 b n k_1 ∧
  q211_8 b k_1) ∧ (∃ (b : List Int), ∃ (n : Int), ∃ (k_1 : Nat), O.d (D.ints IntKind.u8 ([] ++ be (IntKind.u64.wrap c.time) (Int.toNat (8 : Int)) ++ be (IntKind.u64.wrap c.a) (Int.toNat (4 : Int)) ++ be (IntKind.u64.wrap c.b) (Int.toNat (4 : Int)) ++ be (IntKind.u64.wrap c.c) (Int.toNat (4 : Int)))) :: iO .u64 (IntKind.u64.wrap c.d) :: q211_9 = q211_7 b n k_1 ∧
  q211_8 b k_1) ∧ (∃ (b : List Int), ∃ (n : Int), ∃ (k_1 : Nat), O.d (D.ints IntKind.u8 ([] ++ be (IntKind.u64.wrap c.time) (Int.toNat (8 : Int)) ++ be (IntKind.u64.wrap c.a) (Int.toNat (4 : Int)) ++ be (IntKind.u64.wrap c.b) (Int.toNat (4 : Int)) ++ be (IntKind.u64.wrap c.c) (Int.toNat (4 : Int)) ++ be (IntKind.u64.wrap c.d) (Int.toNat (4 : Int)))) :: iO .u64 (IntKind.u64.wrap c.e) :: q211_9 = q211_7 b n k_1 ∧
  q211_8 b k_1) ∧ (∃ (b : List Int), ∃ (n : Int), ∃ (k_1 : Nat), O.d (D.ints IntKind.u8 ([] ++ be (IntKind.u64.wrap c.time) (Int.toNat (8 : Int)) ++ be (IntKind.u64.wrap c.a) (Int.toNat (4 : Int)) ++ be (IntKind.u64.wrap c.b) (Int.toNat (4 : Int)) ++ be (IntKind.u64.wrap c.c) (Int.toNat (4 : Int)) ++ be (IntKind.u64.wrap c.d) (Int.toNat (4 : Int)) ++ be (IntKind.u64.wrap c.e) (Int.toNat (4 : Int)))) :: iO .u64 (IntKind.u64.wrap c.f) :: q211_9 = q211_7 b n k_1 ∧
  q211_8 b k_1) ∧ (∃ (b : List Int), ∃ (n : Int), ∃ (k_1 : Nat), O.d (D.ints IntKind.u8 ([] ++ be (IntKind.u64.wrap c.time) (Int.toNat (8 : Int)) ++ be (IntKind.u64.wrap c.a) (Int.toNat (4 : Int)) ++ be (IntKind.u64.wrap c.b) (Int.toNat (4 : Int)) ++ be (IntKind.u64.wrap c.c) (Int.toNat (4 : Int)) ++ be (IntKind.u64.wrap c.d) (Int.toNat (4 : Int)) ++ be (IntKind.u64.wrap c.e) (Int.toNat (4 : Int)) ++ be (IntKind.u64.wrap c.f) (Int.toNat (4 : Int)))) :: iO .u64 (IntKind.u64.wrap c.g) :: q211_9 = q211_7 b n k_1 ∧
  q211_8 b k_1) ∧ (∃ (b : List Int), ∃ (n : Int), ∃ (k_1 : Nat), [O.d (D.ints IntKind.u8 []), iO .u64 k, iO .i64 (8 : Int)] = q211_7 b n k_1 ∧
  q211_8 b k_1) ∧ True ∧ (8 : Nat) ≤ (140737488355328 : Nat) ∧ True ∧ (44 : Nat) ≤ (140737488355328 : Nat) ∧ True ∧ (52 : Nat) ≤ (140737488355328 : Nat) ∧
  (∃ (b : List Int), [O.d (D.ints IntKind.u8 ([] ++ ([] ++ be k (Int.toNat (8 : Int))) ++ q211_10 c ++ ([] ++ be k (Int.toNat (8 : Int)))))] = [O.d (D.ints IntKind.u8 b)] ∧
  sm b.length ∧ okB b) ∧ (∃ (b : List Int), ∃ (n : Int), ∃ (k_1 : Nat), O.d (D.ints IntKind.u8 (q211_10 c)) :: iO .u64 (IntKind.u64.wrap (sumF ([] ++ ([] ++ be k (Int.toNat (8 : Int))) ++ q211_10 c ++ ([] ++ be k (Int.toNat (8 : Int)))))) :: q211_9 = q211_7 b n k_1 ∧
  q211_8 b k_1) ∧ q211_10 c ++ be (IntKind.u64.wrap (sumF ([] ++ ([] ++ be k (Int.toNat (8 : Int))) ++ q211_10 c ++ ([] ++ be k (Int.toNat (8 : Int)))))) (Int.toNat (4 : Int)) = (sealF k (CruR.mk c.time c.a c.b c.c c.d c.e c.f c.g)).fst ∧
  (0 : Int) = (sealF k (CruR.mk c.time c.a c.b c.c c.d c.e c.f c.g)).snd ∧ (true && true && true) = true) := by
  delta q211_0 q211_1 q211_2 q211_3 q211_4 q211_5 q211_6 q211_7 q211_8 q211_9 q211_10 iO
  simp only [↓sw_iff, ↓Bool.and_eq_true, ↓decide_eq_true_eq, ↓decide_eq_false_iff_not, ↓Bool.not_eq_true', ↓Bool.not_eq_false', true_and, and_true, implies_true, List.nil_append, be_w8, be_w4, toNat8, toNat4, cru_eta]
  intro k c ok
  refine ⟨fun h => ?_, fun h => ?_⟩
  · have hs : ¬ soundF c = true := by
      simp only [soundF, Bool.and_eq_true, decide_eq_true_eq, Bool.not_eq_true', decide_eq_false_iff_not]
      simp only [Bool.or_eq_true, decide_eq_true_eq] at h
      omega
    unfold sealF
    rw [if_neg hs]
    exact ⟨rfl, rfl⟩
  · have hs : soundF c = true := by
      simp only [soundF, Bool.and_eq_true, decide_eq_true_eq, Bool.not_eq_true', decide_eq_false_iff_not]
      simp only [Bool.or_eq_false_iff, decide_eq_false_iff_not] at h
      omega
    have e : sealF k c = (sealB k c, 0) := by unfold sealF; rw [if_pos hs]
    rw [e]
    repeat' apply And.intro
    all_goals first
      | omega
      | rfl
      | exact ⟨_, _, 8, rfl, by simp [sm], by omega, by omega⟩
      | exact ⟨_, _, 4, rfl, by simp [sm, be_len], by omega, by omega⟩
      | exact ⟨_, rfl, by simp [sm, be_len], key_okB (cruB_okB c) k⟩
set_option maxRecDepth 100000 in
theorem ok211 : FnIs Try.prog 211 sealC := by
  refine fnIs (C := (ctrs k7)) (by kernel_rfl) k7_ok Try.func211 (code := code211) (by kernel_rfl) (by kernel_rfl) ?_
  rintro a ⟨k, c, rfl, ok⟩
  exact ⟨anns [], kcast (vc211 k c ok) (by kernel_rfl)⟩

noncomputable def code160 : Code := match Try.f160.body with | some c => c | none => .skip
@[reducible] noncomputable def q160_0 (x0 : List Int) : Int := (↑x0.length : Int)
@[reducible] def q160_1 : Prop := true = true
@[reducible] def q160_2 (x0 : Int) (x1 : List Int) : Prop := (0 : Int) = (openF x0 x1).fst.time ∧ (0 : Int) = (openF x0 x1).fst.a ∧ (0 : Int) = (openF x0 x1).fst.b ∧
  (0 : Int) = (openF x0 x1).fst.c ∧ (0 : Int) = (openF x0 x1).fst.d ∧ (0 : Int) = (openF x0 x1).fst.e ∧ (0 : Int) = (openF x0 x1).fst.f ∧ (0 : Int) = (openF x0 x1).fst.g ∧
  (2 : Int) = (openF x0 x1).snd ∧ q160_1
@[reducible] noncomputable def q160_3 (x0 : List Int) : O := O.d (D.ints IntKind.u8 x0)
@[reducible] noncomputable def q160_4 : List O := [iO .i64 (4 : Int)]
@[reducible] noncomputable def q160_5 (x0 : List Int) (x1 : Int) (x2 : Nat) : List O := [q160_3 x0, iO .i64 x1, iO .i64 (↑x2 : Int)]
@[reducible] def q160_6 (x0 : List Int) (x1 : Int) (x2 : Nat) : Prop := sm x0.length ∧ okB x0 ∧ okI x1 ∧ (1 : Nat) ≤ x2 ∧ x2 ≤ (8 : Nat)
@[reducible] noncomputable def q160_7 : Int := (↑(Int.toNat (4 : Int)) : Int)
@[reducible] noncomputable def q160_8 : Int := (↑(7 : Nat) : Int)
@[reducible] noncomputable def q160_9 : Int := IntKind.i64.wrap ((0 : Int) + (1 : Int))
@[reducible] noncomputable def q160_10 : Int := IntKind.i64.wrap (q160_9 + (1 : Int))
@[reducible] noncomputable def q160_11 : Int := IntKind.i64.wrap (q160_10 + (1 : Int))
@[reducible] noncomputable def q160_12 : Int := IntKind.i64.wrap (q160_11 + (1 : Int))
@[reducible] noncomputable def q160_13 : Int := IntKind.i64.wrap (q160_12 + (1 : Int))
@[reducible] noncomputable def q160_14 : Int := IntKind.i64.wrap ((8 : Int) + IntKind.i64.wrap ((4 : Int) * IntKind.i64.wrap (q160_13 + (1 : Int))))
@[reducible] noncomputable def q160_15 (x0 : List Int) : Int := IntKind.i64.wrap (valF (partF x0 (0 : Int) (↑(Int.toNat (8 : Int)) : Int)).fst)
@[reducible] noncomputable def q160_16 (x0 : List Int) : Int := IntKind.u32.wrap (valF (partF x0 (IntKind.i64.wrap ((8 : Int) + IntKind.i64.wrap ((4 : Int) * (0 : Int)))) q160_7).fst)
@[reducible] noncomputable def q160_17 (x0 : List Int) : Int := IntKind.u32.wrap (valF (partF x0 (IntKind.i64.wrap ((8 : Int) + IntKind.i64.wrap ((4 : Int) * q160_9))) q160_7).fst)
@[reducible] noncomputable def q160_18 (x0 : List Int) : Int := IntKind.u32.wrap (valF (partF x0 (IntKind.i64.wrap ((8 : Int) + IntKind.i64.wrap ((4 : Int) * q160_10))) q160_7).fst)
@[reducible] noncomputable def q160_19 (x0 : List Int) : Int := IntKind.u32.wrap (valF (partF x0 (IntKind.i64.wrap ((8 : Int) + IntKind.i64.wrap ((4 : Int) * q160_11))) q160_7).fst)
@[reducible] noncomputable def q160_20 (x0 : List Int) : Int := IntKind.u32.wrap (valF (partF x0 (IntKind.i64.wrap ((8 : Int) + IntKind.i64.wrap ((4 : Int) * q160_12))) q160_7).fst)
@[reducible] noncomputable def q160_21 (x0 : List Int) : Int := IntKind.u32.wrap (valF (partF x0 (IntKind.i64.wrap ((8 : Int) + IntKind.i64.wrap ((4 : Int) * q160_13))) q160_7).fst)
@[reducible] noncomputable def q160_22 (x0 : List Int) : Int := IntKind.u32.wrap (valF (partF x0 q160_14 q160_7).fst)
set_option maxHeartbeats 4000000 in
theorem vc160 : ∀ (k : Int) (b : List Int), b.length ≤ (1048576 : Nat) → okB b → True ∧ sw (decide (q160_0 b < (40 : Int))) ((0 : Int) = (openF k b).fst.time ∧
  (0 : Int) = (openF k b).fst.a ∧ (0 : Int) = (openF k b).fst.b ∧ (0 : Int) = (openF k b).fst.c ∧ (0 : Int) = (openF k b).fst.d ∧ (0 : Int) = (openF k b).fst.e ∧
  (0 : Int) = (openF k b).fst.f ∧ (0 : Int) = (openF k b).fst.g ∧ (3 : Int) = (openF k b).snd ∧ q160_1) (True ∧ sw (decide ((40 : Int) < q160_0 b)) (q160_2 k b) ((∃ (b_1 : List Int), ∃ (i : Int), ∃ (k_1 : Nat), q160_3 b :: iO .i64 (36 : Int) :: q160_4 = q160_5 b_1 i k_1 ∧
  q160_6 b_1 i k_1) ∧ ((0 : Int) ≤ (36 : Int) ∧ (36 : Int) ≤ q160_0 b) ∧ (∃ (k_1 : Int), ∃ (b_1 : List Int), [iO .u64 k, O.d (D.ints IntKind.u8 (List.take (Int.toNat (36 : Int)) b))] = [iO .u64 k_1, q160_3 b_1] ∧
  b_1.length ≤ (1048576 : Nat) ∧ okB b_1) ∧ True ∧ sw (!decide (valF (partF b (36 : Int) q160_7).fst = keyF k (List.take (Int.toNat (36 : Int)) b))) ((0 : Int) = (openF k b).fst.time ∧
  (0 : Int) = (openF k b).fst.a ∧ (0 : Int) = (openF k b).fst.b ∧ (0 : Int) = (openF k b).fst.c ∧ (0 : Int) = (openF k b).fst.d ∧ (0 : Int) = (openF k b).fst.e ∧
  (0 : Int) = (openF k b).fst.f ∧ (0 : Int) = (openF k b).fst.g ∧ (5 : Int) = (openF k b).snd ∧ q160_1) ((∃ (b_1 : List Int), ∃ (i : Int), ∃ (k_1 : Nat), [q160_3 b, iO .i64 (0 : Int), iO .i64 (8 : Int)] = q160_5 b_1 i k_1 ∧
  q160_6 b_1 i k_1) ∧ (True ∧ ((0 : Int) ≤ (0 : Int) ∧ (0 : Int) < q160_8) ∧ True ∧ True ∧ (∃ (b_1 : List Int), ∃ (i : Int), ∃ (k_1 : Nat), q160_3 b :: iO .i64 (IntKind.i64.wrap ((8 : Int) + IntKind.i64.wrap ((4 : Int) * (0 : Int)))) :: q160_4 = q160_5 b_1 i k_1 ∧
  q160_6 b_1 i k_1) ∧ True ∧ True ∧ ((0 : Int) ≤ q160_9 ∧ q160_9 < q160_8) ∧ True ∧ True ∧ (∃ (b_1 : List Int), ∃ (i : Int), ∃ (k_1 : Nat), q160_3 b :: iO .i64 (IntKind.i64.wrap ((8 : Int) + IntKind.i64.wrap ((4 : Int) * q160_9))) :: q160_4 = q160_5 b_1 i k_1 ∧
  q160_6 b_1 i k_1) ∧ True ∧ True ∧ ((0 : Int) ≤ q160_10 ∧ q160_10 < q160_8) ∧ True ∧ True ∧ (∃ (b_1 : List Int), ∃ (i : Int), ∃ (k_1 : Nat), q160_3 b :: iO .i64 (IntKind.i64.wrap ((8 : Int) + IntKind.i64.wrap ((4 : Int) * q160_10))) :: q160_4 = q160_5 b_1 i k_1 ∧
  q160_6 b_1 i k_1) ∧ True ∧ True ∧ ((0 : Int) ≤ q160_11 ∧ q160_11 < q160_8) ∧ True ∧ True ∧ (∃ (b_1 : List Int), ∃ (i : Int), ∃ (k_1 : Nat), q160_3 b :: iO .i64 (IntKind.i64.wrap ((8 : Int) + IntKind.i64.wrap ((4 : Int) * q160_11))) :: q160_4 = q160_5 b_1 i k_1 ∧
  q160_6 b_1 i k_1) ∧ True ∧ True ∧ ((0 : Int) ≤ q160_12 ∧ q160_12 < q160_8) ∧ True ∧ True ∧ (∃ (b_1 : List Int), ∃ (i : Int), ∃ (k_1 : Nat), q160_3 b :: iO .i64 (IntKind.i64.wrap ((8 : Int) + IntKind.i64.wrap ((4 : Int) * q160_12))) :: q160_4 = q160_5 b_1 i k_1 ∧
  q160_6 b_1 i k_1) ∧ True ∧ True ∧ ((0 : Int) ≤ q160_13 ∧ q160_13 < q160_8) ∧ True ∧ True ∧ (∃ (b_1 : List Int), ∃ (i : Int), ∃ (k_1 : Nat), q160_3 b :: iO .i64 (IntKind.i64.wrap ((8 : Int) + IntKind.i64.wrap ((4 : Int) * q160_13))) :: q160_4 = q160_5 b_1 i k_1 ∧
  q160_6 b_1 i k_1) ∧ True ∧ True ∧ ((0 : Int) ≤ IntKind.i64.wrap (q160_13 + (1 : Int)) ∧ IntKind.i64.wrap (q160_13 + (1 : Int)) < q160_8) ∧ True ∧ True ∧
  (∃ (b_1 : List Int), ∃ (i : Int), ∃ (k_1 : Nat), q160_3 b :: iO .i64 q160_14 :: q160_4 = q160_5 b_1 i k_1 ∧ q160_6 b_1 i k_1) ∧
  True ∧ True ∧ (∃ (c : CruR), [O.agg [iO .i64 (q160_15 b), iO .u32 (q160_16 b), iO .u32 (q160_17 b), iO .u32 (q160_18 b), iO .u32 (q160_19 b), iO .u32 (q160_20 b), iO .u32 (q160_21 b), iO .u32 (q160_22 b)]] = [O.agg [iO .i64 c.time, iO .u32 c.a, iO .u32 c.b, iO .u32 c.c, iO .u32 c.d, iO .u32 c.e, iO .u32 c.f, iO .u32 c.g]]) ∧
  sw (!soundF (CruR.mk (q160_15 b) (q160_16 b) (q160_17 b) (q160_18 b) (q160_19 b) (q160_20 b) (q160_21 b) (q160_22 b))) (q160_2 k b) (q160_15 b = (openF k b).fst.time ∧
  q160_16 b = (openF k b).fst.a ∧ q160_17 b = (openF k b).fst.b ∧ q160_18 b = (openF k b).fst.c ∧ q160_19 b = (openF k b).fst.d ∧ q160_20 b = (openF k b).fst.e ∧
  q160_21 b = (openF k b).fst.f ∧ q160_22 b = (openF k b).fst.g ∧ (0 : Int) = (openF k b).snd ∧ q160_1)) ∧ True))) := by
  delta q160_0 q160_1 q160_2 q160_3 q160_4 q160_5 q160_6 q160_7 q160_8 q160_9 q160_10 q160_11 q160_12 q160_13 q160_14 q160_15 q160_16 q160_17 q160_18
    q160_19 q160_20 q160_21 q160_22 iO
  simp only [↓sw_iff, ↓decide_eq_true_eq, ↓decide_eq_false_iff_not, ↓Bool.not_eq_true', ↓Bool.not_eq_false', true_and, and_true, wr1, wr2, wr3, wr4, wr5, wr6, fa0, fa1, fa2, fa3, fa4, fa5, fa6, toNat4, toNat8, nAt_eq]
  intro k b h hb
  simp only [nAt4 hb]
  refine ⟨fun l1 => ?_, fun l1 => ⟨fun l2 => ?_, fun l2 => ?_⟩⟩
  · rw [open_lt l1]; exact ⟨rfl, rfl, rfl, rfl, rfl, rfl, rfl, rfl, rfl⟩
  · rw [open_gt l2]; exact ⟨rfl, rfl, rfl, rfl, rfl, rfl, rfl, rfl, rfl⟩
  have hl : b.length = 40 := by omega
  have ht : (List.take (Int.toNat 36) b).length ≤ 1048576 := by rw [List.length_take]; omega
  refine ⟨⟨b, 36, 4, rfl, by unfold sm; omega, hb, by unfold okI; omega, by omega, by omega⟩, by omega, ⟨k, _, rfl, ht, okB_take hb _⟩, fun e => ?_, fun e => ?_⟩
  · rw [open_sum hl e]; exact ⟨rfl, rfl, rfl, rfl, rfl, rfl, rfl, rfl, rfl⟩
  · repeat' apply And.intro
    all_goals first
      | omega
      | exact ⟨b, _, 8, rfl, by unfold sm; omega, hb, by unfold okI; omega, by omega, by omega⟩
      | exact ⟨b, _, 4, rfl, by unfold sm; omega, hb, by unfold okI; omega, by omega, by omega⟩
      | exact ⟨cruOf b, rfl⟩
      | (intro hs; rw [open_bad hl e (by rw [Bool.not_eq_true]; exact hs)]; exact ⟨rfl, rfl, rfl, rfl, rfl, rfl, rfl, rfl, rfl⟩)
      | (intro hs; rw [open_ok hl e hs]; exact ⟨rfl, rfl, rfl, rfl, rfl, rfl, rfl, rfl, rfl⟩)
set_option maxRecDepth 100000 in
theorem ok160 : FnIs Try.prog 160 openC := by
  refine fnIs (C := (ctrsJ Try.prog k6 i39 1)) (by kernel_rfl) (cokJ (by kernel_rfl) k6_ok i39_ok) Try.func160 (code := code160) (by kernel_rfl) (by kernel_rfl) ?_
  rintro a ⟨k, b, rfl, h, hb⟩
  exact ⟨anns [] [] [(12, 8)], kcast (vc160 k b h hb) (by kernel_rfl)⟩

noncomputable def code213 : Code := match Try.f213.body with | some c => c | none => .skip
@[reducible] noncomputable def q213_0 (x0 : List Int) : Int := (↑x0.length : Int)
@[reducible] def q213_1 : Prop := true = true
@[reducible] def q213_2 (x0 : Int) (x1 : List Int) : Prop := (0 : Int) = (openF x0 x1).fst.time ∧ (0 : Int) = (openF x0 x1).fst.a ∧ (0 : Int) = (openF x0 x1).fst.b ∧
  (0 : Int) = (openF x0 x1).fst.c ∧ (0 : Int) = (openF x0 x1).fst.d ∧ (0 : Int) = (openF x0 x1).fst.e ∧ (0 : Int) = (openF x0 x1).fst.f ∧ (0 : Int) = (openF x0 x1).fst.g ∧
  (2 : Int) = (openF x0 x1).snd ∧ q213_1
@[reducible] noncomputable def q213_3 (x0 : Nat) : Int := (↑x0 : Int)
@[reducible] noncomputable def q213_5 : Nat := Try.prog.types[5].bytes
@[reducible] noncomputable def q213_6 (x0 : List Int) (x1 : Int) (x2 : Nat) : List O := [O.d (D.ints IntKind.u8 x0), iO .i64 x1, iO .i64 (q213_3 x2)]
@[reducible] noncomputable def q213_7 (x0 : List Int) : Int := valF (partF x0 (36 : Int) (↑(Int.toNat (4 : Int)) : Int)).fst
@[reducible] noncomputable def q213_8 (x0 : Int) (x1 : List Int) : Int := IntKind.i64.wrap (sumF ([] ++ ([] ++ be x0 (Int.toNat (8 : Int))) ++ List.take (Int.toNat (36 : Int)) x1 ++ ([] ++ be x0 (Int.toNat (8 : Int)))))
@[reducible] noncomputable def q213_9 (x0 : List Int) (x1 : Int) : Bool := !decide (q213_7 x0 = q213_8 x1 x0)
@[reducible] noncomputable def q213_10 (x0 : List Int) : Int := valF (partF x0 (0 : Int) (↑(Int.toNat (8 : Int)) : Int)).fst
@[reducible] noncomputable def q213_11 : Int := (↑(7 : Nat) : Int)
@[reducible] def q213_12 : Prop := (7 : Nat) = (7 : Nat)
@[reducible] noncomputable def q213_13 (x0 : List Int) : Option SV := some (SV.c (Value.bool (decide ((1099511627776 : Int) < q213_10 x0))))
@[reducible] def q213_14 (x0 : List Int) : Prop := some (SV.c (Value.int IntKind.u64 (q213_10 x0))) = some (SV.c (Value.int IntKind.u64 (q213_10 x0)))
@[reducible] noncomputable def q213_15 (x0 : List Int) : SV := SV.c (Value.int IntKind.i64 (partF x0 (0 : Int) (↑(Int.toNat (8 : Int)) : Int)).snd)
@[reducible] def q213_16 (x0 : List Int) : Prop := some (SV.tup [SV.c (Value.int IntKind.u64 (q213_10 x0)), q213_15 x0]) = some (SV.tup [SV.c (Value.int IntKind.u64 (q213_10 x0)), q213_15 x0])
@[reducible] def q213_17 : Prop := some (SV.a (0 : Nat)) = some (SV.a (0 : Nat))
@[reducible] def q213_18 : Prop := some (SV.a (7 : Nat)) = some (SV.a (7 : Nat))
@[reducible] def q213_19 : Prop := some (SV.a (2 : Nat)) = some (SV.a (2 : Nat))
@[reducible] def q213_20 (x0 : Int) : Prop := some (SV.c (Value.int IntKind.u64 x0)) = some (SV.c (Value.int IntKind.u64 x0))
@[reducible] noncomputable def q213_21 (x0 : List Int) : Option SV := some (SV.c (Value.bool (decide ((40 : Int) < q213_0 x0))))
@[reducible] def q213_22 (x0 : List Int) : Prop := some (SV.c (Value.int IntKind.i64 (q213_0 x0))) = some (SV.c (Value.int IntKind.i64 (q213_0 x0)))
@[reducible] noncomputable def q213_23 (x0 : List Int) : Option SV := some (SV.c (Value.bool (decide (q213_0 x0 < (40 : Int)))))
@[reducible] def q213_24 : Prop := some R.dead = some R.dead
@[reducible] noncomputable def q213_25 : SV := SV.c (Value.int IntKind.u32 (0 : Int))
@[reducible] noncomputable def q213_26 : Option R := some (R.blk (270 : Nat) [SV.c (Value.int IntKind.i64 (0 : Int)), q213_25, q213_25, q213_25, q213_25, q213_25, q213_25, q213_25])
set_option maxHeartbeats 4000000 in
theorem vc213 : ∀ (k : Int) (b : List Int), b.length ≤ (1048576 : Nat) → okB b → True ∧ sw (decide (q213_0 b < (40 : Int))) ((0 : Int) = (openF k b).fst.time ∧
  (0 : Int) = (openF k b).fst.a ∧ (0 : Int) = (openF k b).fst.b ∧ (0 : Int) = (openF k b).fst.c ∧ (0 : Int) = (openF k b).fst.d ∧ (0 : Int) = (openF k b).fst.e ∧
  (0 : Int) = (openF k b).fst.f ∧ (0 : Int) = (openF k b).fst.g ∧ (3 : Int) = (openF k b).snd ∧ q213_1) (True ∧ sw (decide ((40 : Int) < q213_0 b)) (q213_2 k b) ((∃ (b_1 : List Int), ∃ (n : Int), ∃ (k_1 : Nat), [O.d (D.ints IntKind.u8 []), iO .u64 k, iO .i64 (8 : Int)] = [O.d (D.ints IntKind.u8 b_1), iO .u64 n, iO .i64 (q213_3 k_1)] ∧
  sm b_1.length ∧ (1 : Nat) ≤ k_1 ∧ k_1 ≤ (8 : Nat)) ∧ ((0 : Int) ≤ (36 : Int) ∧ (36 : Int) ≤ q213_0 b) ∧ ((True ∧ (8 : Nat) ≤ (140737488355328 : Nat) ∧ (True ∧
  ((8 : Nat) + (List.take (Int.toNat (36 : Int)) b).length) * q213_5 ≤ (140737488355328 : Nat) ∧ (True ∧ (([] ++ ([] ++ be k (Int.toNat (8 : Int))) ++ List.take (Int.toNat (36 : Int)) b).length + (8 : Nat)) * q213_5 ≤ (140737488355328 : Nat) ∧
  (∃ (b_1 : List Int), ∃ (i : Int), ∃ (k_1 : Nat), [O.d (D.ints IntKind.u8 b), iO .i64 (36 : Int), iO .i64 (4 : Int)] = q213_6 b_1 i k_1 ∧
  sm b_1.length ∧ okB b_1 ∧ okI i ∧ (1 : Nat) ≤ k_1 ∧ k_1 ≤ (7 : Nat)) ∧ (∃ (b_1 : List Int), [O.d (D.ints IntKind.u8 ([] ++ ([] ++ be k (Int.toNat (8 : Int))) ++ List.take (Int.toNat (36 : Int)) b ++ ([] ++ be k (Int.toNat (8 : Int)))))] = [O.d (D.ints IntKind.u8 b_1)] ∧
  sm b_1.length ∧ okB b_1) ∧ True ∧ sw (q213_9 b k) ((0 : Int) = (openF k b).fst.time ∧ (0 : Int) = (openF k b).fst.a ∧ (0 : Int) = (openF k b).fst.b ∧ (0 : Int) = (openF k b).fst.c ∧
  (0 : Int) = (openF k b).fst.d ∧ (0 : Int) = (openF k b).fst.e ∧ (0 : Int) = (openF k b).fst.f ∧ (0 : Int) = (openF k b).fst.g ∧ (5 : Int) = (openF k b).snd ∧
  q213_1) ((∃ (b_1 : List Int), ∃ (i : Int), ∃ (k_1 : Nat), [O.d (D.ints IntKind.u8 b), iO .i64 (0 : Int), iO .i64 (8 : Int)] = q213_6 b_1 i k_1 ∧
  sm b_1.length ∧ okB b_1 ∧ okI i ∧ (1 : Nat) ≤ k_1 ∧ k_1 ≤ (8 : Nat)) ∧ True ∧ sw (decide ((1099511627776 : Int) < q213_10 b)) (q213_2 k b) (∃ (g0 : Nat), g0 ≤ (7 : Nat) ∧
  (0 : Int) = q213_3 g0 ∧ List.replicate (7 : Nat) (0 : Int) = fldL b g0 ∧ (true && true && true) = true ∧ ∀ (g : Nat), g ≤ (7 : Nat) → True ∧ sw (decide (q213_3 g < (7 : Int))) (True ∧
  True ∧ (∃ (b_1 : List Int), ∃ (i : Int), ∃ (k_1 : Nat), [O.d (D.ints IntKind.u8 b), iO .i64 (IntKind.i64.wrap ((8 : Int) + IntKind.i64.wrap ((4 : Int) * q213_3 g))), iO .i64 (4 : Int)] = q213_6 b_1 i k_1 ∧
  sm b_1.length ∧ okB b_1 ∧ okI i ∧ (1 : Nat) ≤ k_1 ∧ k_1 ≤ (7 : Nat)) ∧ ((0 : Int) ≤ q213_3 g ∧ q213_3 g < q213_11 ∧ q213_12) ∧ IntKind.u32 = IntKind.u32 ∧
  True ∧ ∃ (g' : Nat), g' ≤ (7 : Nat) ∧ (7 : Nat) - g' < (7 : Nat) - g ∧ (IntKind.i64.wrap (q213_3 g + (1 : Int)) = q213_3 g' ∧ (fldL b g).set (q213_3 g).toNat (IntKind.u32.wrap (valF (partF b (IntKind.i64.wrap ((8 : Int) + IntKind.i64.wrap ((4 : Int) * q213_3 g))) (↑(Int.toNat (4 : Int)) : Int)).fst)) = fldL b g' ∧
  (true && true && true && true) = true) ∧ (q213_13 b = q213_13 b ∧ q213_14 b ∧
  some (q213_15 b) = some (q213_15 b) ∧ q213_14 b ∧ some (q213_15 b) = some (q213_15 b) ∧ q213_14 b ∧ q213_16 b ∧ q213_16 b ∧ q213_17 ∧ some (SV.c (Value.bool (q213_9 b k))) = some (SV.c (Value.bool (q213_9 b k))) ∧
  some (SV.c (Value.int IntKind.i64 (q213_8 k b))) = some (SV.c (Value.int IntKind.i64 (q213_8 k b))) ∧ some (SV.c (Value.int IntKind.u32 (sumF ([] ++ ([] ++ be k (Int.toNat (8 : Int))) ++ List.take (Int.toNat (36 : Int)) b ++ ([] ++ be k (Int.toNat (8 : Int))))))) = some (SV.c (Value.int IntKind.u32 (sumF ([] ++ ([] ++ be k (Int.toNat (8 : Int))) ++ List.take (Int.toNat (36 : Int)) b ++ ([] ++ be k (Int.toNat (8 : Int))))))) ∧
  q213_18 ∧ some (SV.c (Value.int IntKind.i64 (q213_7 b))) = some (SV.c (Value.int IntKind.i64 (q213_7 b))) ∧ q213_17 ∧ q213_18 ∧ q213_18 ∧ some (SV.a (6 : Nat)) = some (SV.a (6 : Nat)) ∧
  some (SV.a (5 : Nat)) = some (SV.a (5 : Nat)) ∧ some (SV.a (4 : Nat)) = some (SV.a (4 : Nat)) ∧ q213_19 ∧ some (SV.a (3 : Nat)) = some (SV.a (3 : Nat)) ∧
  q213_17 ∧ q213_19 ∧ q213_19 ∧ q213_19 ∧ q213_20 k ∧ q213_21 b = q213_21 b ∧ q213_22 b ∧ q213_17 ∧ q213_23 b = q213_23 b ∧ q213_22 b ∧ q213_17 ∧ some (SV.c (Value.int IntKind.i64 (0 : Int))) = some (SV.c (Value.int IntKind.i64 (0 : Int))) ∧
  some (SV.p (1 : Nat) (0 : Nat)) = some (SV.p (1 : Nat) (0 : Nat)) ∧ q213_20 k ∧ q213_17 ∧ True) ∧ some (R.own (5 : Nat) (D.ints IntKind.u8 ([] ++ ([] ++ be k (Int.toNat (8 : Int))) ++ List.take (Int.toNat (36 : Int)) b ++ ([] ++ be k (Int.toNat (8 : Int)))))) = some (R.own (5 : Nat) (D.ints IntKind.u8 ([] ++ ([] ++ be k (Int.toNat (8 : Int))) ++ List.take (Int.toNat (36 : Int)) b ++ ([] ++ be k (Int.toNat (8 : Int)))))) ∧
  q213_24 ∧ q213_24 ∧ q213_24 ∧ some (R.ro (D.ints IntKind.u8 (List.take (Int.toNat (36 : Int)) b))) = some (R.ro (D.ints IntKind.u8 (List.take (Int.toNat (36 : Int)) b))) ∧
  some (R.own (5 : Nat) (D.ints IntKind.u8 ([] ++ be k (Int.toNat (8 : Int))))) = some (R.own (5 : Nat) (D.ints IntKind.u8 ([] ++ be k (Int.toNat (8 : Int))))) ∧
  q213_26 = q213_26 ∧ some (R.ro (D.ints IntKind.u8 b)) = some (R.ro (D.ints IntKind.u8 b)) ∧ True) (((0 : Int) ≤ (0 : Int) ∧ (0 : Int) < q213_11 ∧ q213_12) ∧
  True ∧ sw (decide ((fldL b g).getD (Int.toNat (0 : Int)) (0 : Int) = (0 : Int))) (q213_2 k b) (((0 : Int) ≤ (1 : Int) ∧ (1 : Int) < q213_11 ∧ q213_12) ∧
  True ∧ sw (decide ((fldL b g).getD (Int.toNat (1 : Int)) (0 : Int) = (0 : Int))) (q213_2 k b) (((0 : Int) ≤ (0 : Int) ∧ (0 : Int) < q213_11 ∧ q213_12) ∧
  ((0 : Int) ≤ (1 : Int) ∧ (1 : Int) < q213_11 ∧ q213_12) ∧ ((0 : Int) ≤ (2 : Int) ∧ (2 : Int) < q213_11 ∧ q213_12) ∧ ((0 : Int) ≤ (3 : Int) ∧ (3 : Int) < q213_11 ∧
  q213_12) ∧ ((0 : Int) ≤ (4 : Int) ∧ (4 : Int) < q213_11 ∧ q213_12) ∧ ((0 : Int) ≤ (5 : Int) ∧ (5 : Int) < q213_11 ∧ q213_12) ∧ ((0 : Int) ≤ (6 : Int) ∧
  (6 : Int) < q213_11 ∧ q213_12) ∧ IntKind.i64.wrap (q213_10 b) = (openF k b).fst.time ∧ (fldL b g).getD (Int.toNat (0 : Int)) (0 : Int) = (openF k b).fst.a ∧
  (fldL b g).getD (Int.toNat (1 : Int)) (0 : Int) = (openF k b).fst.b ∧ (fldL b g).getD (Int.toNat (2 : Int)) (0 : Int) = (openF k b).fst.c ∧ (fldL b g).getD (Int.toNat (3 : Int)) (0 : Int) = (openF k b).fst.d ∧
  (fldL b g).getD (Int.toNat (4 : Int)) (0 : Int) = (openF k b).fst.e ∧ (fldL b g).getD (Int.toNat (5 : Int)) (0 : Int) = (openF k b).fst.f ∧ (fldL b g).getD (Int.toNat (6 : Int)) (0 : Int) = (openF k b).fst.g ∧
  (0 : Int) = (openF k b).snd ∧ q213_1)))))) ∧ True) ∧ True) ∧ True) ∧ True)) := by
  delta q213_0 q213_1 q213_2 q213_3 q213_5 q213_6 q213_7 q213_8 q213_9 q213_10 q213_11 q213_12 q213_13 q213_14 q213_15 q213_16 q213_17 q213_18 q213_19
    q213_20 q213_21 q213_22 q213_23 q213_24 q213_25 q213_26 iO
  simp only [↓sw_iff, ↓Bool.and_eq_true, ↓decide_eq_true_eq, ↓decide_eq_false_iff_not, ↓Bool.not_eq_true', ↓Bool.not_eq_false', true_and, and_true, Int.toNat_natCast, List.nil_append, List.length_append, Nat.mul_one, toNat8, toNat4, nAt_eq, bytes5, wrap_sum_i]
  intro k b h hb
  refine ⟨fun l1 => ?_, fun l1 => ⟨fun l2 => ?_, fun l2 => ?_⟩⟩
  · rw [open_lt l1]; exact ⟨rfl, rfl, rfl, rfl, rfl, rfl, rfl, rfl, rfl⟩
  · rw [open_gt l2]; exact ⟨rfl, rfl, rfl, rfl, rfl, rfl, rfl, rfl, rfl⟩
  have hl : b.length = 40 := by omega
  have ht : (List.take (Int.toNat 36) b).length = 36 := by rw [List.length_take]; omega
  have n0 := nAt_rng hb 0 (k := 8)
  rw [show (256 : Int) ^ 8 = 18446744073709551616 from rfl] at n0
  refine ⟨⟨[], k, 8, rfl, by simp [sm], by omega, by omega⟩, by omega, by omega, by omega, by rw [be_len]; omega, ⟨b, 36, 4, rfl, by unfold sm; omega, hb, by unfold okI; omega, by omega, by omega⟩,
    ⟨_, rfl, by simp only [sm, List.length_append, be_len]; omega, key_okB (okB_take hb _) k⟩, fun e => ?_, fun e => ?_⟩
  · rw [open_sum hl e]; exact ⟨rfl, rfl, rfl, rfl, rfl, rfl, rfl, rfl, rfl⟩
  refine ⟨⟨b, 0, 8, rfl, by unfold sm; omega, hb, by unfold okI; omega, by omega, by omega⟩, fun t => ?_, fun t => ⟨0, by omega, rfl, fldL_zero b, fun g hg => ⟨fun hlt => ?_, fun hlt => ?_⟩⟩⟩
  · rw [open_bad hl e (by rw [sound_iff b hb]; omega)]; exact ⟨rfl, rfl, rfl, rfl, rfl, rfl, rfl, rfl, rfl⟩
  · rw [fld_rng g (by omega), nAt4 hb]
    exact ⟨⟨b, _, 4, rfl, by unfold sm; omega, hb, by unfold okI; omega, by omega, by omega⟩, by omega, g + 1, by omega, by omega, by rw [wrap_i64_id (by omega) (by omega)]; omega, fldL_set b (by omega)⟩
  · have : g = 7 := by omega
    subst this
    have f0 : (fldL b 7).getD (Int.toNat 0) 0 = nAt b 8 4 := rfl
    have f1 : (fldL b 7).getD (Int.toNat 1) 0 = nAt b 12 4 := rfl
    rw [f0, f1]
    refine ⟨by omega, fun z => ?_, fun z => ⟨by omega, fun z' => ?_, fun z' => ?_⟩⟩
    · rw [open_bad hl e (by rw [sound_iff b hb]; omega)]; exact ⟨rfl, rfl, rfl, rfl, rfl, rfl, rfl, rfl, rfl⟩
    · rw [open_bad hl e (by rw [sound_iff b hb]; omega)]; exact ⟨rfl, rfl, rfl, rfl, rfl, rfl, rfl, rfl, rfl⟩
    · rw [open_ok hl e (by rw [sound_iff b hb]; omega)]
      exact ⟨by omega, by omega, by omega, by omega, by omega, by omega, by omega, rfl, rfl, rfl, rfl, rfl, rfl, rfl, rfl, rfl⟩
set_option maxRecDepth 100000 in
theorem ok213 : FnIs Try.prog 213 openC := by
  refine fnIs (C := (ctrs k8)) (by kernel_rfl) k8_ok Try.func213 (code := code213) (by kernel_rfl) (by kernel_rfl) ?_
  rintro a ⟨k, b, rfl, h, hb⟩
  exact ⟨anns [(14, fldAnn 11 10 b)], kcast (vc213 k b h hb) (by kernel_rfl)⟩

noncomputable def code209 : Code := match Try.f209.body with | some c => c | none => .skip
@[reducible] def q209_0 (x0 : Int) : Prop := SV.c (Value.int IntKind.i64 x0) = SV.c (Value.int IntKind.i64 x0)
@[reducible] def q209_1 (x0 : CruR) (x1 : Int) : Prop := [decide (x0.time ≤ x1)] = [decide (x0.time ≤ x1)]
@[reducible] noncomputable def q209_2 (x0 : CruR) (x1 : Int) (x2 : Int) : Bool := decide (x0.time ≤ x1) && decide ((0 : Int) ≤ x2)
@[reducible] def q209_3 (x0 : CruR) (x1 : Int) (x2 : Int) : Prop := [q209_2 x0 x1 x2] = [q209_2 x0 x1 x2]
@[reducible] def q209_4 (x0 : Int) : Prop := SV.c (Value.int IntKind.u64 (IntKind.u64.wrap x0)) = SV.c (Value.int IntKind.u64 (IntKind.u64.wrap x0))
@[reducible] noncomputable def q209_5 (x0 : Int) (x1 : CruR) : Int := IntKind.u64.wrap (IntKind.u64.wrap x0 - IntKind.u64.wrap x1.time)
@[reducible] noncomputable def q209_6 (x0 : Int) (x1 : CruR) (x2 : Int) : SV := SV.c (Value.bool (decide (q209_5 x0 x1 ≤ IntKind.u64.wrap x2)))
set_option maxHeartbeats 4000000 in
theorem vc209 : ∀ (c : CruR) (n l : Int), (-1099511627776 : Int) ≤ c.time ∧ c.time ≤ (1099511627776 : Int) → (-1099511627776 : Int) ≤ n ∧ n ≤ (1099511627776 : Int) →
  (-1099511627776 : Int) ≤ l ∧ l ≤ (1099511627776 : Int) → True ∧ sw (decide (c.time ≤ n)) (q209_0 l) True ∧ sw (decide (c.time ≤ n)) (q209_1 c n ∧ True ∧
  SV.c (Value.bool (decide ((0 : Int) ≤ l))) = SV.c (Value.bool (decide ((0 : Int) ≤ l)))) True ∧ q209_1 c n ∧ sw (q209_2 c n l) (q209_0 n) True ∧ sw (q209_2 c n l) (q209_3 c n l ∧
  q209_4 n) True ∧ sw (q209_2 c n l) (SV.p (0 : Nat) (0 : Nat) = SV.p (0 : Nat) (0 : Nat)) True ∧ sw (q209_2 c n l) (q209_3 c n l ∧ SV.c (Value.int IntKind.i64 c.time) = SV.c (Value.int IntKind.i64 c.time)) True ∧
  sw (q209_2 c n l) (q209_3 c n l ∧ SV.c (Value.int IntKind.u64 (IntKind.u64.wrap c.time)) = SV.c (Value.int IntKind.u64 (IntKind.u64.wrap c.time))) True ∧
  sw (q209_2 c n l) (q209_3 c n l ∧ q209_3 c n l ∧ True ∧ SV.c (Value.int IntKind.u64 (q209_5 n c)) = SV.c (Value.int IntKind.u64 (q209_5 n c))) True ∧ sw (q209_2 c n l) (q209_0 l) True ∧
  sw (q209_2 c n l) (q209_3 c n l ∧ q209_4 l) True ∧ sw (q209_2 c n l) (q209_3 c n l ∧ q209_3 c n l ∧ True ∧ q209_6 n c l = q209_6 n c l) True ∧ q209_3 c n l ∧
  (q209_2 c n l && decide (q209_5 n c ≤ IntKind.u64.wrap l)) = freshF c.time n l ∧ true = true := by
  delta q209_0 q209_1 q209_2 q209_3 q209_4 q209_5 q209_6
  simp only [↓sw_iff, ↓Bool.and_eq_true, ↓Bool.and_eq_false_iff, ↓decide_eq_true_eq, ↓decide_eq_false_iff_not, true_and, and_true, implies_true]
  intro c n l h1 h2 h3
  unfold freshF
  rw [IntKind.wrap_u64, IntKind.wrap_u64, IntKind.wrap_u64, IntKind.wrap_u64]
  by_cases a1 : c.time ≤ n
  · by_cases a2 : 0 ≤ l
    · simp only [a1, a2, decide_true, Bool.and_true, Bool.true_and, decide_eq_decide]
      omega
    · simp [a2]
  · simp [a1]
set_option maxRecDepth 100000 in
theorem ok209 : FnIs Try.prog 209 freshC := by
  refine fnIs (C := (ctrs c0)) (by kernel_rfl) c0_ok Try.func209 (code := code209) (by kernel_rfl) (by kernel_rfl) ?_
  rintro a ⟨c, n, l, rfl, h1, h2, h3⟩
  exact ⟨anns [], kcast (vc209 c n l h1 h2 h3) (by kernel_rfl)⟩

noncomputable def code214 : Code := match Try.f214.body with | some c => c | none => .skip
set_option maxHeartbeats 4000000 in
theorem vc214 : ∀ (c : CruR) (n l : Int), (-1099511627776 : Int) ≤ c.time ∧ c.time ≤ (1099511627776 : Int) → (-1099511627776 : Int) ≤ n ∧ n ≤ (1099511627776 : Int) →
  (-1099511627776 : Int) ≤ l ∧ l ≤ (1099511627776 : Int) → True ∧ sw (!decide (n < c.time)) (SV.c (Value.int IntKind.i64 l) = SV.c (Value.int IntKind.i64 l)) True ∧
  sw (!decide (n < c.time)) ([!decide (n < c.time)] = [!decide (n < c.time)] ∧ True ∧ SV.c (Value.bool (decide (l < (0 : Int)))) = SV.c (Value.bool (decide (l < (0 : Int))))) True ∧
  [!decide (n < c.time)] = [!decide (n < c.time)] ∧ sw (decide (n < c.time) || decide (l < (0 : Int))) (false = freshF c.time n l ∧ true = true) (True ∧
  sw (decide (c.time < (0 : Int))) (SV.c (Value.int IntKind.i64 n) = SV.c (Value.int IntKind.i64 n)) True ∧ sw (decide (c.time < (0 : Int))) ([decide (c.time < (0 : Int))] = [decide (c.time < (0 : Int))] ∧
  True ∧ SV.c (Value.bool (decide ((0 : Int) ≤ n))) = SV.c (Value.bool (decide ((0 : Int) ≤ n)))) True ∧ [decide (c.time < (0 : Int))] = [decide (c.time < (0 : Int))] ∧
  sw (decide (c.time < (0 : Int)) && decide ((0 : Int) ≤ n)) (True ∧ True ∧ True ∧ True ∧ decide (IntKind.u64.wrap (IntKind.u64.wrap (IntKind.u64.wrap n + IntKind.u64.wrap (IntKind.i64.wrap ((0 : Int) - IntKind.i64.wrap (c.time + (1 : Int))))) + (1 : Int)) ≤ IntKind.u64.wrap l) = freshF c.time n l ∧
  true = true) (True ∧ True ∧ decide (IntKind.i64.wrap (n - c.time) ≤ l) = freshF c.time n l ∧ true = true)) := by
  simp only [↓sw_iff, ↓Bool.and_eq_true, ↓Bool.and_eq_false_iff, ↓decide_eq_true_eq, ↓decide_eq_false_iff_not, ↓Bool.not_eq_true', ↓Bool.not_eq_false', true_and, and_true, implies_true]
  intro c n l h1 h2 h3
  unfold freshF
  have w1 : IntKind.i64.wrap (c.time + 1) = c.time + 1 := wrap_i64_id (by omega) (by omega)
  have w2 : IntKind.i64.wrap (0 - (c.time + 1)) = 0 - (c.time + 1) := wrap_i64_id (by omega) (by omega)
  have w3 : IntKind.i64.wrap (n - c.time) = n - c.time := wrap_i64_id (by omega) (by omega)
  rw [w1, w2, w3]
  simp only [IntKind.wrap_u64]
  refine ⟨fun h => ?_, fun h => ?_⟩
  · simp only [Bool.or_eq_true, decide_eq_true_eq] at h
    by_cases a1 : c.time ≤ n
    · have a2 : ¬ 0 ≤ l := by omega
      simp [a2]
    · simp [a1]
  · simp only [Bool.or_eq_false_iff, decide_eq_false_iff_not] at h
    have a1 : c.time ≤ n := by omega
    have a2 : 0 ≤ l := by omega
    refine ⟨fun _ => ?_, fun _ => ?_⟩ <;> simp only [a1, a2, decide_true, Bool.and_true, Bool.true_and, decide_eq_decide] <;> omega
set_option maxRecDepth 100000 in
theorem ok214 : FnIs Try.prog 214 freshC := by
  refine fnIs (C := (ctrs c0)) (by kernel_rfl) c0_ok Try.func214 (code := code214) (by kernel_rfl) (by kernel_rfl) ?_
  rintro a ⟨c, n, l, rfl, h1, h2, h3⟩
  exact ⟨anns [], kcast (vc214 c n l h1 h2 h3) (by kernel_rfl)⟩

end Go.ZR
