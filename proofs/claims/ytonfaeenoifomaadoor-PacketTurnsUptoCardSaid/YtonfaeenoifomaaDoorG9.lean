/- Part 9 of what the closing text rests on. -/
import Derived.Test.YtonfaeenoifomaaDoorG8
import Derived.Test.YtonfaeenoifomaaDoorRows
/- Packets: walked. -/
namespace Go.ZR
open Go.Proofs
open Go.Z Go.ZM Go.RowKit
set_option maxRecDepth 100000
theorem nAt_eq (v : List Int) (i : Int) (k : Nat) : valF (partF v i (k : Int)).1 = nAt v i k := rfl
theorem nAt_rng {v : List Int} (hv : okB v) (i : Int) {k : Nat} : 0 ≤ nAt v i k ∧ nAt v i k < 256 ^ k := by
  unfold nAt getF
  have h1 := part_ok hv i (k : Int)
  have h2 := val_lt h1
  have h3 := part_len (b := v) (i := i) (k := k)
  have h4 : ∀ a b : Nat, a ≤ b → (256 : Int) ^ a ≤ 256 ^ b := fun a b h => by
    obtain ⟨c, rfl⟩ := Nat.exists_eq_add_of_le h
    rw [Int.pow_add]
    have := pow_pos' a; have h5 := pow_pos' c
    calc (256 : Int) ^ a = 256 ^ a * 1 := by rw [Int.mul_one]
      _ ≤ 256 ^ a * 256 ^ c := Int.mul_le_mul_of_nonneg_left (by omega) (by omega)
  have := h4 _ _ h3
  exact ⟨val_nonneg h1, by omega⟩
theorem nAt2 {v : List Int} (hv : okB v) (i : Int) : IntKind.u16.wrap (nAt v i 2) = nAt v i 2 := by
  have h := nAt_rng hv i (k := 2)
  rw [show (256 : Int) ^ 2 = 65536 from rfl] at h
  rw [IntKind.wrap_u16]; omega
theorem nAt4 {v : List Int} (hv : okB v) (i : Int) : IntKind.u32.wrap (nAt v i 4) = nAt v i 4 := by
  have h := nAt_rng hv i (k := 4)
  rw [show (256 : Int) ^ 4 = 4294967296 from rfl] at h
  rw [IntKind.wrap_u32]; omega
theorem getP_big {b : List Int} (h : 4096 < (b.length : Int)) : getP b = (noPac, 4) := by unfold getP; rw [if_pos (by omega)]
theorem getP_short {b : List Int} (h : ¬ 4096 < (b.length : Int)) (h1 : (b.length : Int) < 12) : getP b = (noPac, 3) := by unfold getP; rw [if_neg (by omega), if_pos (by omega)]
theorem getP_sum {b : List Int} (h : b.length ≤ 4096) (h1 : 12 ≤ b.length) (e : ¬ pkB b = (b.drop 8).take 4) : getP b = (noPac, 5) := by unfold getP; rw [if_neg (by omega), if_neg (by omega), if_pos e]
theorem getP_err {b : List Int} (h : b.length ≤ 4096) (h1 : 12 ≤ b.length) (e : pkB b = (b.drop 8).take 4) (g : ¬ (getR (b.drop 12)).2 = 0) : getP b = (noPac, (getR (b.drop 12)).2) := by
  unfold getP; rw [if_neg (by omega), if_neg (by omega), if_neg (by simpa using e), if_pos g]
theorem getP_bad {b : List Int} (h : b.length ≤ 4096) (h1 : 12 ≤ b.length) (e : pkB b = (b.drop 8).take 4) (g : (getR (b.drop 12)).2 = 0) (s : soundP (pacOf b) = false) : getP b = (noPac, 2) := by
  unfold getP; rw [if_neg (by omega), if_neg (by omega), if_neg (by simpa using e), if_neg (by simpa using g), if_pos s]
theorem getP_ok {b : List Int} (h : b.length ≤ 4096) (h1 : 12 ≤ b.length) (e : pkB b = (b.drop 8).take 4) (g : (getR (b.drop 12)).2 = 0) (s : soundP (pacOf b) = true) : getP b = (pacOf b, 0) := by
  unfold getP; rw [if_neg (by omega), if_neg (by omega), if_neg (by simpa using e), if_neg (by simpa using g), if_neg (by rw [s]; simp)]
theorem putP_bad {p : PacR} (h : soundP p = false) : putP p = ([], 2) := by unfold putP; rw [if_pos h]
theorem putP_err {p : PacR} (h : soundP p = true) (e : ¬ (putR p.l).2 = 0) : putP p = ([], (putR p.l).2) := by unfold putP; rw [if_neg (by rw [h]; simp), if_pos e]
theorem putP_big {p : PacR} (h : soundP p = true) (e : (putR p.l).2 = 0) (g : 4096 < 12 + (putB p.l).length) : putP p = ([], 4) := by unfold putP; rw [if_neg (by rw [h]; simp), if_neg (by simpa using e), if_pos g]
theorem putP_ok {p : PacR} (h : soundP p = true) (e : (putR p.l).2 = 0) (g : ¬ 4096 < 12 + (putB p.l).length) : putP p = (pkBytes p, 0) := by unfold putP; rw [if_neg (by rw [h]; simp), if_neg (by simpa using e), if_neg g]
theorem pkH_len (p : PacR) : (pkH p).length = 8 := by simp [pkH, be_len]
theorem pkB_len (b : List Int) : (pkB b).length = 4 := by simp [pkB, be_len]
theorem pac_eta (p : PacR) : PacR.mk p.a p.b p.tag p.l = p := by cases p; rfl
theorem be_u64 (n : Int) : ∀ {k : Nat}, k ≤ 8 → be (IntKind.u64.wrap n) k = be n k
  | 0, _ => rfl
  | k + 1, h => by
    rw [be, be, be_u64 n (by omega)]
    congr 1
    rw [IntKind.wrap_u64]
    obtain ⟨j, hj⟩ : ∃ j : Nat, (18446744073709551616 : Int) = 256 ^ k * (256 * 256 ^ j) := ⟨7 - k, by
      rw [← Int.mul_assoc, ← Int.pow_succ, ← Int.pow_add, show k + 1 + (7 - k) = 8 by omega]; rfl⟩
    have e := Int.emod_add_mul_ediv n 18446744073709551616
    have q : ∀ q : Int, 18446744073709551616 * q = 256 ^ k * (256 * (256 ^ j * q)) := fun q => by rw [hj, Int.mul_assoc, Int.mul_assoc]
    have : n / 256 ^ k = (n % 18446744073709551616) / 256 ^ k + 256 * (256 ^ j * (n / 18446744073709551616)) := by
      conv => lhs; rw [← e, q]
      rw [Int.add_mul_ediv_left _ _ (by have := pow_pos' k; omega)]
    rw [this, Int.add_mul_emod_self_left]
theorem any_get {l : List ChR} {g : Nat} (h : g < l.length) (ha : aloneF (l.getD g noCh).t = true) : anyAl l = true := by
  unfold anyAl
  rw [List.any_eq_true]
  exact ⟨_, getD_mem h, ha⟩
theorem any_none {l : List ChR} (h : ∀ j, j < l.length → aloneF (l.getD j noCh).t = false) : anyAl l = false := by
  unfold anyAl
  rw [List.any_eq_false]
  intro c hc
  obtain ⟨j, hj, rfl⟩ := List.getElem_of_mem hc
  have := h j hj
  rw [show l.getD j noCh = l[j] by simp [List.getD, List.getElem?_eq_getElem hj]] at this
  rw [this]; simp
theorem sound_zero {p : PacR} (h : p.a = 0 ∨ p.b = 0 ∨ p.l.length = 0) : soundP p = false := by unfold soundP; rw [if_pos h]
theorem sound_go {p : PacR} (h : ¬ (p.a = 0 ∨ p.b = 0 ∨ p.l.length = 0)) : soundP p = ((!anyAl p.l || decide (p.l.length = 1)) && (decide ((p.l.getD 0 noCh).t = 1) == decide (p.tag = 0))) := by unfold soundP; rw [if_neg h]
theorem be_w2 (n : Int) : be (IntKind.u64.wrap n) 2 = be n 2 := be_u64 n (by decide)
theorem be_w4' (n : Int) : be (IntKind.u64.wrap n) 4 = be n 4 := be_u64 n (by decide)
theorem drop_four {l : List Int} {i : Nat} (h : i + 4 ≤ l.length) : (l.drop i).take 4 = [l.getD i 0, l.getD (i + 1) 0, l.getD (i + 2) 0, l.getD (i + 3) 0] := by
  have hl : (l.drop i).length = l.length - i := List.length_drop
  have e0 := take_succ_getD (l := l.drop i) (j := 0) (by omega)
  have e1 := take_succ_getD (l := l.drop i) (j := 1) (by omega)
  have e2 := take_succ_getD (l := l.drop i) (j := 2) (by omega)
  have e3 := take_succ_getD (l := l.drop i) (j := 3) (by omega)
  rw [e3, e2, e1, e0]
  simp only [getD_drop]
  simp
theorem set_zero {b : List Int} {g : Nat} (h : 8 + g < b.length) : (b.take 8 ++ List.replicate g 0 ++ b.drop (8 + g)).set (8 + g) 0 = b.take 8 ++ List.replicate (g + 1) 0 ++ b.drop (8 + (g + 1)) := by
  have hl : (b.take 8 ++ List.replicate g (0 : Int)).length = 8 + g := by simp; omega
  rw [List.set_append_right _ _ (by rw [hl]; exact Nat.le_refl _), hl, Nat.sub_self, ← List.getElem_cons_drop h, List.set_cons_zero, List.replicate_succ', List.append_assoc, List.append_assoc, List.append_assoc]
  rfl
theorem pkSum_eq (b : List Int) : pkSum b = sumF (b.take 8 ++ List.replicate 4 0 ++ b.drop 12) := by
  unfold pkSum sumF
  rw [moreF_more, moreF_more, ← List.append_assoc]
  rfl
theorem pkB_eq (b : List Int) : pkB b = [pkSum b / 256 ^ 0 % 256, pkSum b / 256 ^ 1 % 256, pkSum b / 256 ^ 2 % 256, pkSum b / 256 ^ 3 % 256] := rfl
theorem pk_same {b : List Int} (h : 12 ≤ b.length) : pkB b = (b.drop 8).take 4 ↔ ∀ j, j < 4 → b.getD (8 + j) 0 = pkSum b / 256 ^ j % 256 := by
  rw [drop_four (by omega), pkB_eq]
  constructor
  · intro e j hj
    simp only [List.cons.injEq, and_true] at e
    match j, hj with
    | 0, _ => exact e.1.symm
    | 1, _ => exact e.2.1.symm
    | 2, _ => exact e.2.2.1.symm
    | 3, _ => exact e.2.2.2.symm
  · intro e
    rw [← e 0 (by decide), ← e 1 (by decide), ← e 2 (by decide), ← e 3 (by decide)]
theorem pk_bytes {p : PacR} : pkH p ++ (pkB (pkBody p) ++ (pkBody p).drop 12) = pkBytes p := by
  unfold pkBytes
  have h1 : pkBody p = (pkH p ++ [0, 0, 0, 0]) ++ putB p.l := rfl
  have h2 : (pkBody p).drop 12 = putB p.l := by
    rw [h1, List.drop_append_of_le_length (by simp [pkH_len]), List.drop_of_length_le (by simp [pkH_len]), List.nil_append]
  rw [h2]
theorem pkBody_ok {p : PacR} (h : okCB p.l) : okB (pkBody p) := okB_append (okB_append (okB_append (okB_append (be_ok _ _) (be_ok _ _)) (be_ok _ _)) (fun x hx => by simp at hx; omega)) (putB_ok h)
theorem pkBody_len (p : PacR) : (pkBody p).length = 12 + (putB p.l).length := by simp [pkBody, pkH_len]; omega
theorem tb_shift (t : Int) (g : Nat) (hg : g < 4) : IntKind.u8.wrap (t.fdiv (2 ^ min (IntKind.u64.wrap (IntKind.i64.wrap (8 * (g : Int)))).toNat IntKind.u32.bits)) = t / 256 ^ g % 256 := by
  rw [show (IntKind.u64.wrap (IntKind.i64.wrap (8 * (g : Int)))).toNat = 8 * g by rw [IntKind.wrap_i64, IntKind.wrap_u64]; omega]
  rw [show min (8 * g) IntKind.u32.bits = 8 * g from Nat.min_eq_left (by show 8 * g ≤ 32; omega), IntKind.wrap_u8, Int.fdiv_eq_ediv_of_nonneg _ (Int.le_of_lt (Int.pow_pos (by decide))), Int.pow_mul]
  rfl
noncomputable def i26c42 : Code := match Tryd.f42.body with | some c => c | none => .skip
noncomputable def i26_42 : InlF := ⟨i26c42, Tryd.f42.ntmps, Tryd.f42.results.toList, anns [(2, alAnn)]⟩
noncomputable def i26c27 : Code := match Tryd.f27.body with | some c => c | none => .skip
noncomputable def i26_27 : InlF := ⟨i26c27, Tryd.f27.ntmps, Tryd.f27.results.toList, anns []⟩
noncomputable def i26 : List (Nat × InlF) := [(42, i26_42), (27, i26_27)]
theorem i26_ok : InlsOk Tryd.prog i26 := ⟨inlOk Tryd.func42 (by kernel_rfl) (by kernel_rfl), inlOk Tryd.func27 (by kernel_rfl) (by kernel_rfl), trivial⟩
noncomputable def code8 : Code := match Tryd.f8.body with | some c => c | none => .skip
set_option maxHeartbeats 4000000 in
theorem vc8 : ∀ (n : Int), True ∧ sw (decide (n = (1 : Int))) (sw (decide (n = (1 : Int))) (true = aloneF n ∧ (true && true) = true) (false = aloneF n ∧ (true && true) = true)) (True ∧
  sw (decide (n = (2 : Int))) (sw (decide (n = (2 : Int))) (true = aloneF n ∧ (true && true) = true) (false = aloneF n ∧ (true && true) = true)) (True ∧ sw (decide (n = (14 : Int))) (true = aloneF n ∧
  (true && true) = true) (false = aloneF n ∧ (true && true) = true))) := by
  simp only [↓sw_iff, ↓Bool.and_eq_true, ↓decide_eq_true_eq, ↓decide_eq_false_iff_not, true_and, and_true]
  intro n
  simp [aloneF]
  omega
set_option maxRecDepth 100000 in
theorem ok8 : FnIs Tryd.prog 8 aloneC := by
  refine fnIs (C := (ctrs c0)) (by kernel_rfl) c0_ok Tryd.func8 (code := code8) (by kernel_rfl) (by kernel_rfl) ?_
  rintro a ⟨n, rfl⟩
  exact ⟨anns [], kcast (vc8 n) (by kernel_rfl)⟩

theorem p5_ok : COk Tryd.prog (ctrs p5) := cok_cons ok8 cok_nil

noncomputable def code26 : Code := match Tryd.f26.body with | some c => c | none => .skip
set_option maxHeartbeats 4000000 in
theorem vc26 : ∀ (l : List ChR), okChs l → ∃ (p : List ChR), ∃ (g0 : Nat), (g0 ≤ p.length ∧ ∀ (j : Nat), j < g0 → aloneF (p.getD j noCh).t = false) ∧ (0 : Int) = (↑g0 : Int) ∧
  (true && true) = true ∧ ∀ (g : Nat), (g ≤ p.length ∧ ∀ (j : Nat), j < g → aloneF (p.getD j noCh).t = false) → True ∧ sw (decide ((↑g : Int) < (↑l.length : Int))) (((0 : Int) ≤ (↑g : Int) ∧
  (↑g : Int) < (↑l.length : Int)) ∧ (∃ (n : Int), [O.d (D.v (Value.int IntKind.u8 (l.getD (↑g : Int).toNat noCh).t))] = [O.d (D.v (Value.int IntKind.u8 n))]) ∧
  sw (aloneF (l.getD (↑g : Int).toNat noCh).t) (True ∧ decide ((0 : Int) ≤ (↑g : Int)) = anyAl (chsOf (D.recs (3 : Nat) l.length (chCell l))) ∧ (true && true) = true) (True ∧
  ∃ (g' : Nat), (g' ≤ p.length ∧ ∀ (j : Nat), j < g' → aloneF (p.getD j noCh).t = false) ∧ p.length - g' < p.length - g ∧ (IntKind.i64.wrap ((↑g : Int) + (1 : Int)) = (↑g' : Int) ∧
  (true && true && true) = true) ∧ (some (SV.c (Value.int IntKind.i64 (↑l.length : Int))) = some (SV.c (Value.int IntKind.i64 (↑l.length : Int))) ∧ some (SV.a (0 : Nat)) = some (SV.a (0 : Nat)) ∧
  some (SV.a (0 : Nat)) = some (SV.a (0 : Nat)) ∧ some (SV.f (27 : Nat) (0 : Nat) []) = some (SV.f (27 : Nat) (0 : Nat) []) ∧ True) ∧ some (R.ro (D.recs (3 : Nat) l.length (chCell l))) = some (R.ro (D.recs (3 : Nat) l.length (chCell l))) ∧
  True)) (True ∧ decide ((0 : Int) ≤ (-1 : Int)) = anyAl (chsOf (D.recs (3 : Nat) l.length (chCell l))) ∧ (true && true) = true) := by
  simp only [↓sw_iff, ↓Bool.and_eq_true, ↓decide_eq_true_eq, ↓decide_eq_false_iff_not, true_and, and_true, Int.toNat_natCast, chsOf_chs]
  intro l h
  have h' := h.1
  refine ⟨l, 0, ⟨Nat.zero_le _, fun j hj => absurd hj (Nat.not_lt_zero _)⟩, rfl, ?_⟩
  rintro g ⟨h1, h2⟩
  refine ⟨fun t => ⟨⟨by omega, t⟩, ⟨_, rfl⟩, fun ha => ?_, fun ha => ⟨g + 1, ⟨by omega, fun j hj => ?_⟩, by omega, by rw [wrap_i64_id (by omega) (by omega)]; omega⟩⟩, fun t => ?_⟩
  · rw [any_get (by omega) ha]; simp
  · by_cases e : j = g
    · subst e; exact ha
    · exact h2 j (by omega)
  · rw [any_none fun j hj => h2 j (by omega)]; rfl
set_option maxRecDepth 100000 in
theorem ok26 : FnIs Tryd.prog 26 anyC := by
  refine fnIs (C := (ctrsJ Tryd.prog p5 i26 2)) (by kernel_rfl) (cokJ (by kernel_rfl) p5_ok i26_ok) Tryd.func26 (code := code26) (by kernel_rfl) (by kernel_rfl) ?_
  rintro a ⟨l, rfl, h⟩
  exact ⟨anns [], kcast (vc26 l h) (by kernel_rfl)⟩

theorem p6_ok : COk Tryd.prog (ctrs p6) := cok_cons ok26 cok_nil

noncomputable def code14 : Code := match Tryd.f14.body with | some c => c | none => .skip
set_option maxHeartbeats 4000000 in
theorem vc14 : ∀ (p : PacR), okChs p.l → True ∧ sw (!decide (p.a = (0 : Int))) (SV.p (1 : Nat) (1 : Nat) = SV.p (1 : Nat) (1 : Nat)) True ∧ sw (!decide (p.a = (0 : Int))) ([!decide (p.a = (0 : Int))] = [!decide (p.a = (0 : Int))] ∧
  SV.c (Value.int IntKind.u16 p.b) = SV.c (Value.int IntKind.u16 p.b)) True ∧ sw (!decide (p.a = (0 : Int))) ([!decide (p.a = (0 : Int))] = [!decide (p.a = (0 : Int))] ∧
  True ∧ SV.c (Value.bool (decide (p.b = (0 : Int)))) = SV.c (Value.bool (decide (p.b = (0 : Int))))) True ∧ [!decide (p.a = (0 : Int))] = [!decide (p.a = (0 : Int))] ∧
  sw (!(decide (p.a = (0 : Int)) || decide (p.b = (0 : Int)))) (SV.p (1 : Nat) (3 : Nat) = SV.p (1 : Nat) (3 : Nat)) True ∧ sw (!(decide (p.a = (0 : Int)) || decide (p.b = (0 : Int)))) ([!(decide (p.a = (0 : Int)) || decide (p.b = (0 : Int)))] = [!(decide (p.a = (0 : Int)) || decide (p.b = (0 : Int)))] ∧
  SV.a (0 : Nat) = SV.a (0 : Nat)) True ∧ sw (!(decide (p.a = (0 : Int)) || decide (p.b = (0 : Int)))) ([!(decide (p.a = (0 : Int)) || decide (p.b = (0 : Int)))] = [!(decide (p.a = (0 : Int)) || decide (p.b = (0 : Int)))] ∧
  SV.c (Value.int IntKind.i64 (↑p.l.length : Int)) = SV.c (Value.int IntKind.i64 (↑p.l.length : Int))) True ∧ sw (!(decide (p.a = (0 : Int)) || decide (p.b = (0 : Int)))) ([!(decide (p.a = (0 : Int)) || decide (p.b = (0 : Int)))] = [!(decide (p.a = (0 : Int)) || decide (p.b = (0 : Int)))] ∧
  True ∧ SV.c (Value.bool (decide ((↑p.l.length : Int) = (0 : Int)))) = SV.c (Value.bool (decide ((↑p.l.length : Int) = (0 : Int))))) True ∧ [!(decide (p.a = (0 : Int)) || decide (p.b = (0 : Int)))] = [!(decide (p.a = (0 : Int)) || decide (p.b = (0 : Int)))] ∧
  sw (decide (p.a = (0 : Int)) || decide (p.b = (0 : Int)) || decide ((↑p.l.length : Int) = (0 : Int))) (false = soundP (PacR.mk p.a p.b p.tag (chsOf (D.recs (3 : Nat) p.l.length (chCell p.l)))) ∧
  (true && true) = true) ((∃ (l : List ChR), [O.d (D.recs (3 : Nat) p.l.length (chCell p.l)), O.d (D.fn (27 : Nat) (0 : Nat) (0 : Nat) fun (i : Nat) => [].getD i (D.v undef))] = [O.d (D.recs (3 : Nat) l.length (chCell l)), O.d (D.fn (27 : Nat) (0 : Nat) (0 : Nat) fun (i : Nat) => [].getD i (D.v undef))] ∧
  okChs l) ∧ sw (!!anyAl (chsOf (D.recs (3 : Nat) p.l.length (chCell p.l)))) (SV.p (1 : Nat) (3 : Nat) = SV.p (1 : Nat) (3 : Nat)) True ∧ sw (!!anyAl (chsOf (D.recs (3 : Nat) p.l.length (chCell p.l)))) ([!!anyAl (chsOf (D.recs (3 : Nat) p.l.length (chCell p.l)))] = [!!anyAl (chsOf (D.recs (3 : Nat) p.l.length (chCell p.l)))] ∧
  SV.a (0 : Nat) = SV.a (0 : Nat)) True ∧ sw (!!anyAl (chsOf (D.recs (3 : Nat) p.l.length (chCell p.l)))) ([!!anyAl (chsOf (D.recs (3 : Nat) p.l.length (chCell p.l)))] = [!!anyAl (chsOf (D.recs (3 : Nat) p.l.length (chCell p.l)))] ∧
  SV.c (Value.int IntKind.i64 (↑p.l.length : Int)) = SV.c (Value.int IntKind.i64 (↑p.l.length : Int))) True ∧ sw (!!anyAl (chsOf (D.recs (3 : Nat) p.l.length (chCell p.l)))) ([!!anyAl (chsOf (D.recs (3 : Nat) p.l.length (chCell p.l)))] = [!!anyAl (chsOf (D.recs (3 : Nat) p.l.length (chCell p.l)))] ∧
  True ∧ SV.c (Value.bool (decide ((↑p.l.length : Int) = (1 : Int)))) = SV.c (Value.bool (decide ((↑p.l.length : Int) = (1 : Int))))) True ∧ [!!anyAl (chsOf (D.recs (3 : Nat) p.l.length (chCell p.l)))] = [!!anyAl (chsOf (D.recs (3 : Nat) p.l.length (chCell p.l)))] ∧
  sw (!anyAl (chsOf (D.recs (3 : Nat) p.l.length (chCell p.l))) || decide ((↑p.l.length : Int) = (1 : Int))) (SV.p (1 : Nat) (3 : Nat) = SV.p (1 : Nat) (3 : Nat)) True ∧
  sw (!anyAl (chsOf (D.recs (3 : Nat) p.l.length (chCell p.l))) || decide ((↑p.l.length : Int) = (1 : Int))) ([!anyAl (chsOf (D.recs (3 : Nat) p.l.length (chCell p.l))) || decide ((↑p.l.length : Int) = (1 : Int))] = [!anyAl (chsOf (D.recs (3 : Nat) p.l.length (chCell p.l))) || decide ((↑p.l.length : Int) = (1 : Int))] ∧
  SV.a (0 : Nat) = SV.a (0 : Nat)) True ∧ sw (!anyAl (chsOf (D.recs (3 : Nat) p.l.length (chCell p.l))) || decide ((↑p.l.length : Int) = (1 : Int))) ([!anyAl (chsOf (D.recs (3 : Nat) p.l.length (chCell p.l))) || decide ((↑p.l.length : Int) = (1 : Int))] = [!anyAl (chsOf (D.recs (3 : Nat) p.l.length (chCell p.l))) || decide ((↑p.l.length : Int) = (1 : Int))] ∧
  ((0 : Int) ≤ (0 : Int) ∧ (0 : Int) < (↑p.l.length : Int)) ∧ SV.e (0 : Nat) Tryd.prog.types[(28 : Nat)].size (Int.toNat (0 : Int)) (0 : Nat) = SV.e (0 : Nat) Tryd.prog.types[(28 : Nat)].size (Int.toNat (0 : Int)) (0 : Nat)) True ∧
  sw (!anyAl (chsOf (D.recs (3 : Nat) p.l.length (chCell p.l))) || decide ((↑p.l.length : Int) = (1 : Int))) ([!anyAl (chsOf (D.recs (3 : Nat) p.l.length (chCell p.l))) || decide ((↑p.l.length : Int) = (1 : Int))] = [!anyAl (chsOf (D.recs (3 : Nat) p.l.length (chCell p.l))) || decide ((↑p.l.length : Int) = (1 : Int))] ∧
  SV.e (0 : Nat) Tryd.prog.types[(28 : Nat)].size (Int.toNat (0 : Int)) (0 : Nat) = SV.e (0 : Nat) Tryd.prog.types[(28 : Nat)].size (Int.toNat (0 : Int)) (0 : Nat)) True ∧
  sw (!anyAl (chsOf (D.recs (3 : Nat) p.l.length (chCell p.l))) || decide ((↑p.l.length : Int) = (1 : Int))) ([!anyAl (chsOf (D.recs (3 : Nat) p.l.length (chCell p.l))) || decide ((↑p.l.length : Int) = (1 : Int))] = [!anyAl (chsOf (D.recs (3 : Nat) p.l.length (chCell p.l))) || decide ((↑p.l.length : Int) = (1 : Int))] ∧
  SV.c (Value.int IntKind.u8 (p.l.getD (Int.toNat (0 : Int)) noCh).t) = SV.c (Value.int IntKind.u8 (p.l.getD (Int.toNat (0 : Int)) noCh).t)) True ∧ sw (!anyAl (chsOf (D.recs (3 : Nat) p.l.length (chCell p.l))) || decide ((↑p.l.length : Int) = (1 : Int))) ([!anyAl (chsOf (D.recs (3 : Nat) p.l.length (chCell p.l))) || decide ((↑p.l.length : Int) = (1 : Int))] = [!anyAl (chsOf (D.recs (3 : Nat) p.l.length (chCell p.l))) || decide ((↑p.l.length : Int) = (1 : Int))] ∧
  True ∧ SV.c (Value.bool (decide ((p.l.getD (Int.toNat (0 : Int)) noCh).t = (1 : Int)))) = SV.c (Value.bool (decide ((p.l.getD (Int.toNat (0 : Int)) noCh).t = (1 : Int))))) True ∧
  sw (!anyAl (chsOf (D.recs (3 : Nat) p.l.length (chCell p.l))) || decide ((↑p.l.length : Int) = (1 : Int))) (SV.p (1 : Nat) (2 : Nat) = SV.p (1 : Nat) (2 : Nat)) True ∧
  sw (!anyAl (chsOf (D.recs (3 : Nat) p.l.length (chCell p.l))) || decide ((↑p.l.length : Int) = (1 : Int))) ([!anyAl (chsOf (D.recs (3 : Nat) p.l.length (chCell p.l))) || decide ((↑p.l.length : Int) = (1 : Int))] = [!anyAl (chsOf (D.recs (3 : Nat) p.l.length (chCell p.l))) || decide ((↑p.l.length : Int) = (1 : Int))] ∧
  SV.c (Value.int IntKind.u32 p.tag) = SV.c (Value.int IntKind.u32 p.tag)) True ∧ sw (!anyAl (chsOf (D.recs (3 : Nat) p.l.length (chCell p.l))) || decide ((↑p.l.length : Int) = (1 : Int))) ([!anyAl (chsOf (D.recs (3 : Nat) p.l.length (chCell p.l))) || decide ((↑p.l.length : Int) = (1 : Int))] = [!anyAl (chsOf (D.recs (3 : Nat) p.l.length (chCell p.l))) || decide ((↑p.l.length : Int) = (1 : Int))] ∧
  True ∧ SV.c (Value.bool (decide (p.tag = (0 : Int)))) = SV.c (Value.bool (decide (p.tag = (0 : Int))))) True ∧ sw (!anyAl (chsOf (D.recs (3 : Nat) p.l.length (chCell p.l))) || decide ((↑p.l.length : Int) = (1 : Int))) ([!anyAl (chsOf (D.recs (3 : Nat) p.l.length (chCell p.l))) || decide ((↑p.l.length : Int) = (1 : Int))] = [!anyAl (chsOf (D.recs (3 : Nat) p.l.length (chCell p.l))) || decide ((↑p.l.length : Int) = (1 : Int))] ∧
  [!anyAl (chsOf (D.recs (3 : Nat) p.l.length (chCell p.l))) || decide ((↑p.l.length : Int) = (1 : Int))] = [!anyAl (chsOf (D.recs (3 : Nat) p.l.length (chCell p.l))) || decide ((↑p.l.length : Int) = (1 : Int))] ∧
  True ∧ SV.c (Value.bool (decide ((p.l.getD (Int.toNat (0 : Int)) noCh).t = (1 : Int)) == decide (p.tag = (0 : Int)))) = SV.c (Value.bool (decide ((p.l.getD (Int.toNat (0 : Int)) noCh).t = (1 : Int)) == decide (p.tag = (0 : Int))))) True ∧
  [!anyAl (chsOf (D.recs (3 : Nat) p.l.length (chCell p.l))) || decide ((↑p.l.length : Int) = (1 : Int))] = [!anyAl (chsOf (D.recs (3 : Nat) p.l.length (chCell p.l))) || decide ((↑p.l.length : Int) = (1 : Int))] ∧
  ((!anyAl (chsOf (D.recs (3 : Nat) p.l.length (chCell p.l))) || decide ((↑p.l.length : Int) = (1 : Int))) && decide ((p.l.getD (Int.toNat (0 : Int)) noCh).t = (1 : Int)) == decide (p.tag = (0 : Int))) = soundP (PacR.mk p.a p.b p.tag (chsOf (D.recs (3 : Nat) p.l.length (chCell p.l)))) ∧
  (true && true) = true) := by
  simp only [↓sw_iff, ↓Bool.and_eq_true, ↓decide_eq_true_eq, ↓decide_eq_false_iff_not, ↓Bool.not_eq_true', ↓Bool.not_eq_false', true_and, and_true, implies_true, chsOf_chs, size28]
  intro p h
  refine ⟨fun t => ?_, fun t => ⟨⟨p.l, rfl, h⟩, fun _ => ?_, ?_⟩⟩
  · simp only [Bool.or_eq_true, decide_eq_true_eq] at t
    rw [pac_eta, sound_zero (by omega)]
  · simp only [Bool.or_eq_false_iff, decide_eq_false_iff_not] at t
    omega
  · simp only [Bool.or_eq_false_iff, decide_eq_false_iff_not] at t
    rw [pac_eta, sound_go (by omega), show decide ((p.l.length : Int) = 1) = decide (p.l.length = 1) by rw [decide_eq_decide]; omega]
    rfl
set_option maxRecDepth 100000 in
theorem ok14 : FnIs Tryd.prog 14 soundPC := by
  refine fnIs (C := (ctrs p6)) (by kernel_rfl) p6_ok Tryd.func14 (code := code14) (by kernel_rfl) (by kernel_rfl) ?_
  rintro a ⟨p, rfl, h⟩
  exact ⟨anns [], kcast (vc14 p h) (by kernel_rfl)⟩

theorem p7_ok : COk Tryd.prog (ctrs p7) := cok_cons ok14 (cok_cons ok15 (cok_cons ok16 (cok_cons ok17 cok_nil)))

noncomputable def code9 : Code := match Tryd.f9.body with | some c => c | none => .skip
set_option maxHeartbeats 4000000 in
theorem vc9 : ∀ (p : PacR), okPac p → (∃ (p_1 : PacR), [O.agg [O.d (D.v (Value.int IntKind.u16 p.a)), O.d (D.v (Value.int IntKind.u16 p.b)), O.d (D.v (Value.int IntKind.u32 p.tag)), O.d (D.recs (3 : Nat) p.l.length (chCell p.l))]] = [O.agg [O.d (D.v (Value.int IntKind.u16 p_1.a)), O.d (D.v (Value.int IntKind.u16 p_1.b)), O.d (D.v (Value.int IntKind.u32 p_1.tag)), O.d (D.recs (3 : Nat) p_1.l.length (chCell p_1.l))]] ∧
  okChs p_1.l) ∧ sw (!soundP (PacR.mk p.a p.b p.tag (chsOf (D.recs (3 : Nat) p.l.length (chCell p.l))))) ((putP (PacR.mk p.a p.b p.tag (chsOf (D.recs (3 : Nat) p.l.length (chCell p.l))))).fst = [] ∧
  (2 : Int) = (putP (PacR.mk p.a p.b p.tag (chsOf (D.recs (3 : Nat) p.l.length (chCell p.l))))).snd ∧ (true && true) = true) ((∃ (l : List ChR), [O.d (D.recs (3 : Nat) p.l.length (chCell p.l))] = [O.d (D.recs (3 : Nat) l.length (chCell l))] ∧
  okChs l) ∧ True ∧ sw (!decide ((putR (chsOf (D.recs (3 : Nat) p.l.length (chCell p.l)))).snd = (0 : Int))) ((putP (PacR.mk p.a p.b p.tag (chsOf (D.recs (3 : Nat) p.l.length (chCell p.l))))).fst = [] ∧
  (putR (chsOf (D.recs (3 : Nat) p.l.length (chCell p.l)))).snd = (putP (PacR.mk p.a p.b p.tag (chsOf (D.recs (3 : Nat) p.l.length (chCell p.l))))).snd ∧
  (true && true) = true) (True ∧ True ∧ sw (decide ((4096 : Int) < IntKind.i64.wrap ((12 : Int) + (↑(putR (chsOf (D.recs (3 : Nat) p.l.length (chCell p.l)))).fst.length : Int)))) ((putP (PacR.mk p.a p.b p.tag (chsOf (D.recs (3 : Nat) p.l.length (chCell p.l))))).fst = [] ∧
  (4 : Int) = (putP (PacR.mk p.a p.b p.tag (chsOf (D.recs (3 : Nat) p.l.length (chCell p.l))))).snd ∧ (true && true) = true) (((∃ (b : List Int), ∃ (n : Int), ∃ (k : Nat), [O.d (D.ints IntKind.u8 []), O.d (D.v (Value.int IntKind.u64 (IntKind.u64.wrap p.a))), O.d (D.v (Value.int IntKind.i64 (2 : Int)))] = [O.d (D.ints IntKind.u8 b), O.d (D.v (Value.int IntKind.u64 n)), O.d (D.v (Value.int IntKind.i64 (↑k : Int)))] ∧
  sm b.length ∧ (1 : Nat) ≤ k ∧ k ≤ (8 : Nat)) ∧ ((∃ (b : List Int), ∃ (n : Int), ∃ (k : Nat), [O.d (D.ints IntKind.u8 ([] ++ be (IntKind.u64.wrap p.a) (Int.toNat (2 : Int)))), O.d (D.v (Value.int IntKind.u64 (IntKind.u64.wrap p.b))), O.d (D.v (Value.int IntKind.i64 (2 : Int)))] = [O.d (D.ints IntKind.u8 b), O.d (D.v (Value.int IntKind.u64 n)), O.d (D.v (Value.int IntKind.i64 (↑k : Int)))] ∧
  sm b.length ∧ (1 : Nat) ≤ k ∧ k ≤ (8 : Nat)) ∧ ((∃ (b : List Int), ∃ (n : Int), ∃ (k : Nat), [O.d (D.ints IntKind.u8 ([] ++ be (IntKind.u64.wrap p.a) (Int.toNat (2 : Int)) ++ be (IntKind.u64.wrap p.b) (Int.toNat (2 : Int)))), O.d (D.v (Value.int IntKind.u64 (IntKind.u64.wrap p.tag))), O.d (D.v (Value.int IntKind.i64 (4 : Int)))] = [O.d (D.ints IntKind.u8 b), O.d (D.v (Value.int IntKind.u64 n)), O.d (D.v (Value.int IntKind.i64 (↑k : Int)))] ∧
  sm b.length ∧ (1 : Nat) ≤ k ∧ k ≤ (8 : Nat)) ∧ True ∧ (12 : Nat) ≤ (140737488355328 : Nat) ∧ True ∧ ((12 : Nat) + (putR (chsOf (D.recs (3 : Nat) p.l.length (chCell p.l)))).fst.length) * Tryd.prog.types[(5 : Nat)].bytes ≤ (140737488355328 : Nat) ∧
  (((0 : Int) ≤ (8 : Int) ∧ (8 : Int) ≤ (↑([] ++ be (IntKind.u64.wrap p.a) (Int.toNat (2 : Int)) ++ be (IntKind.u64.wrap p.b) (Int.toNat (2 : Int)) ++ be (IntKind.u64.wrap p.tag) (Int.toNat (4 : Int)) ++ [(0 : Int), (0 : Int), (0 : Int), (0 : Int)] ++ (putR (chsOf (D.recs (3 : Nat) p.l.length (chCell p.l)))).fst).length : Int)) ∧
  ((((80 : Nat) = (80 : Nat) ∧ IntKind.u8 = IntKind.u8 ∧ deTab = deTab) ∧ True) ∧ (∃ (b : List Int), [O.d (D.ints IntKind.u8 ([] ++ be (IntKind.u64.wrap p.a) (Int.toNat (2 : Int)) ++ be (IntKind.u64.wrap p.b) (Int.toNat (2 : Int)) ++ be (IntKind.u64.wrap p.tag) (Int.toNat (4 : Int)) ++ [(0 : Int), (0 : Int), (0 : Int), (0 : Int)] ++ (putR (chsOf (D.recs (3 : Nat) p.l.length (chCell p.l)))).fst))] = [O.d (D.ints IntKind.u8 b)] ∧
  (12 : Nat) ≤ b.length ∧ sm b.length ∧ okB b) ∧ ((IntKind.u8 = IntKind.u8 ∧ (12 : Nat) ≤ ([] ++ be (IntKind.u64.wrap p.a) (Int.toNat (2 : Int)) ++ be (IntKind.u64.wrap p.b) (Int.toNat (2 : Int)) ++ be (IntKind.u64.wrap p.tag) (Int.toNat (4 : Int)) ++ [(0 : Int), (0 : Int), (0 : Int), (0 : Int)] ++ (putR (chsOf (D.recs (3 : Nat) p.l.length (chCell p.l)))).fst).length ∧
  (0 : Nat) < (4 : Nat)) ∧ [IntKind.u64.wrap p.a / (256 : Int) ^ nat_lit 1 % (256 : Int), IntKind.u64.wrap p.a / (256 : Int) ^ nat_lit 0 % (256 : Int), IntKind.u64.wrap p.b / (256 : Int) ^ nat_lit 1 % (256 : Int), IntKind.u64.wrap p.b / (256 : Int) ^ nat_lit 0 % (256 : Int), IntKind.u64.wrap p.tag / (256 : Int) ^ nat_lit 3 % (256 : Int), IntKind.u64.wrap p.tag / (256 : Int) ^ nat_lit 2 % (256 : Int), IntKind.u64.wrap p.tag / (256 : Int) ^ nat_lit 1 % (256 : Int), IntKind.u64.wrap p.tag / (256 : Int) ^ nat_lit 0 % (256 : Int)] ++ (pkB ([] ++ be (IntKind.u64.wrap p.a) (Int.toNat (2 : Int)) ++ be (IntKind.u64.wrap p.b) (Int.toNat (2 : Int)) ++ be (IntKind.u64.wrap p.tag) (Int.toNat (4 : Int)) ++ [(0 : Int), (0 : Int), (0 : Int), (0 : Int)] ++ (putR (chsOf (D.recs (3 : Nat) p.l.length (chCell p.l)))).fst) ++ List.drop (12 : Nat) ([] ++ be (IntKind.u64.wrap p.a) (Int.toNat (2 : Int)) ++ be (IntKind.u64.wrap p.b) (Int.toNat (2 : Int)) ++ be (IntKind.u64.wrap p.tag) (Int.toNat (4 : Int)) ++ [(0 : Int), (0 : Int), (0 : Int), (0 : Int)] ++ (putR (chsOf (D.recs (3 : Nat) p.l.length (chCell p.l)))).fst)) = (putP (PacR.mk p.a p.b p.tag (chsOf (D.recs (3 : Nat) p.l.length (chCell p.l))))).fst ∧
  (0 : Int) = (putP (PacR.mk p.a p.b p.tag (chsOf (D.recs (3 : Nat) p.l.length (chCell p.l))))).snd ∧ (!false && true && true) = true) ∧ True) ∧ True ∨ ((0 : Int) ≤ (8 : Int) ∧
  (8 : Int) ≤ (↑([] ++ be (IntKind.u64.wrap p.a) (Int.toNat (2 : Int)) ++ be (IntKind.u64.wrap p.b) (Int.toNat (2 : Int)) ++ be (IntKind.u64.wrap p.tag) (Int.toNat (4 : Int)) ++ [(0 : Int), (0 : Int), (0 : Int), (0 : Int)] ++ (putR (chsOf (D.recs (3 : Nat) p.l.length (chCell p.l)))).fst).length : Int)) ∧
  ((((80 : Nat) = (80 : Nat) ∧ IntKind.u8 = IntKind.u8 ∧ deTab = deTab) ∧ True) ∧ (∃ (b : List Int), [O.d (D.ints IntKind.u8 ([] ++ be (IntKind.u64.wrap p.a) (Int.toNat (2 : Int)) ++ be (IntKind.u64.wrap p.b) (Int.toNat (2 : Int)) ++ be (IntKind.u64.wrap p.tag) (Int.toNat (4 : Int)) ++ [(0 : Int), (0 : Int), (0 : Int), (0 : Int)] ++ (putR (chsOf (D.recs (3 : Nat) p.l.length (chCell p.l)))).fst))] = [O.d (D.ints IntKind.u8 b)] ∧
  (12 : Nat) ≤ b.length ∧ sm b.length ∧ okB b) ∧ False ∧ True) ∧ True)) ∧ True) ∧ True) ∧ True))) := by
  simp only [↓sw_iff, ↓Bool.and_eq_true, ↓decide_eq_true_eq, ↓decide_eq_false_iff_not, ↓Bool.not_eq_true', ↓Bool.not_eq_false', true_and, and_true, Nat.zero_add, List.nil_append, List.length_cons, List.length_nil, List.length_append, Nat.mul_one, chsOf_chs, pac_eta, bytes5, toNat4, toNat2, be_w2, be_w4', be_len]
  intro p ok
  refine ⟨⟨p, rfl, ok.2.2.2.1⟩, fun s => by rw [putP_bad s]; exact ⟨rfl, rfl⟩, fun s => ⟨⟨p.l, rfl, ok.2.2.2.1⟩, fun e => by rw [putP_err s e]; exact ⟨rfl, rfl⟩, fun e => ?_⟩⟩
  obtain ⟨z1, z2, z3⟩ := putR_zero e
  have hz : (putR p.l).1.length = (putB p.l).length := by rw [z3]
  rw [hz, wrap_i64_id (by omega) (by omega)]
  refine ⟨fun g => by rw [putP_big s e (by omega)]; exact ⟨rfl, rfl⟩, fun g => ?_⟩
  rw [putP_ok s e (by omega), z3]
  have hb : (pkBody p).length = 12 + (putB p.l).length := pkBody_len p
  refine ⟨⟨[], _, 2, rfl, by simp [sm], by omega, by omega⟩, ⟨_, _, 2, rfl, by simp [sm, be_len], by omega, by omega⟩, ⟨_, _, 4, rfl, by simp [sm, be_len], by omega, by omega⟩, by omega, by omega, .inl ⟨⟨by omega, ?_⟩, ⟨pkBody p, rfl, by omega, by unfold sm; omega, pkBody_ok ok.2.2.2.2⟩, ⟨?_, by omega⟩, ?_, rfl⟩⟩
  · omega
  · omega
  · have h1 := be_w2 p.a
    have h2 := be_w2 p.b
    have h3 := be_w4' p.tag
    have : be (IntKind.u64.wrap p.a) 2 ++ be (IntKind.u64.wrap p.b) 2 ++ be (IntKind.u64.wrap p.tag) 4 ++ (pkB (pkBody p) ++ (pkBody p).drop 12) = pkBytes p := by
      rw [h1, h2, h3]; exact pk_bytes
    exact this
set_option maxRecDepth 100000 in
theorem ok9 : FnIs Tryd.prog 9 putPC := by
  refine fnIs (C := (ctrs p7)) (by kernel_rfl) p7_ok Tryd.func9 (code := code9) (by kernel_rfl) (by kernel_rfl) ?_
  rintro a ⟨p, rfl, ok⟩
  exact ⟨anns [], kcast (vc9 p ok) (by kernel_rfl)⟩

noncomputable def code18 : Code := match Tryd.f18.body with | some c => c | none => .skip
set_option maxHeartbeats 4000000 in
theorem vc18 : ∀ (l m : List Int), sm l.length → True ∧ sw (!decide ((↑l.length : Int) = (↑m.length : Int))) (false = decide (l = m) ∧ (true && true) = true) (∃ (g0 : Nat), (g0 ≤ l.length ∧
  ∀ (j : Nat), j < g0 → l.getD j (0 : Int) = m.getD j (0 : Int)) ∧ (0 : Int) = (↑g0 : Int) ∧ (true && true) = true ∧ ∀ (g : Nat), (g ≤ l.length ∧ ∀ (j : Nat), j < g →
  l.getD j (0 : Int) = m.getD j (0 : Int)) → True ∧ sw (decide ((↑g : Int) < (↑l.length : Int))) (((0 : Int) ≤ (↑g : Int) ∧ (↑g : Int) < (↑l.length : Int)) ∧
  ((0 : Int) ≤ (↑g : Int) ∧ (↑g : Int) < (↑m.length : Int)) ∧ True ∧ sw (!decide (l.getD (↑g : Int).toNat (0 : Int) = m.getD (↑g : Int).toNat (0 : Int))) (false = decide (l = m) ∧
  (true && true) = true) (True ∧ ∃ (g' : Nat), (g' ≤ l.length ∧ ∀ (j : Nat), j < g' → l.getD j (0 : Int) = m.getD j (0 : Int)) ∧ l.length - g' < l.length - g ∧
  (IntKind.i64.wrap ((↑g : Int) + (1 : Int)) = (↑g' : Int) ∧ (true && true && true) = true) ∧ (some (SV.c (Value.int IntKind.i64 (↑l.length : Int))) = some (SV.c (Value.int IntKind.i64 (↑l.length : Int))) ∧
  some (SV.a (0 : Nat)) = some (SV.a (0 : Nat)) ∧ some (SV.a (1 : Nat)) = some (SV.a (1 : Nat)) ∧ True) ∧ some (R.ro (D.ints IntKind.u8 m)) = some (R.ro (D.ints IntKind.u8 m)) ∧
  some (R.ro (D.ints IntKind.u8 l)) = some (R.ro (D.ints IntKind.u8 l)) ∧ True)) (true = decide (l = m) ∧ (true && true) = true)) := by
  simp only [↓sw_iff, ↓Bool.and_eq_true, ↓decide_eq_true_eq, ↓decide_eq_false_iff_not, ↓Bool.not_eq_true', ↓Bool.not_eq_false', true_and, and_true, Int.toNat_natCast]
  intro l m h
  unfold sm at h
  refine ⟨fun t => ?_, fun t => ⟨0, ⟨Nat.zero_le _, fun j hj => absurd hj (Nat.not_lt_zero _)⟩, rfl, ?_⟩⟩
  · symm; rw [decide_eq_false_iff_not]; rintro rfl; exact t rfl
  have hlm : l.length = m.length := by omega
  rintro g ⟨h1, h2⟩
  refine ⟨fun hlt => ⟨⟨by omega, by omega⟩, ⟨by omega, by omega⟩, fun hx => ?_, fun hx => ⟨g + 1, ⟨by omega, fun j hj => ?_⟩, by omega, by rw [wrap_i64_id (by omega) (by omega)]; omega⟩⟩, fun hge => ?_⟩
  · symm; rw [decide_eq_false_iff_not]; rintro rfl; exact hx rfl
  · by_cases e : j = g
    · subst e; exact hx
    · exact h2 j (by omega)
  · symm; rw [decide_eq_true_eq]
    apply List.ext_getElem hlm
    intro j a b
    have := h2 j (by omega)
    simpa [List.getD, List.getElem?_eq_getElem a, List.getElem?_eq_getElem b] using this
set_option maxRecDepth 100000 in
theorem ok18 : FnIs Tryd.prog 18 eqC := by
  refine fnIs (C := (ctrs c0)) (by kernel_rfl) c0_ok Tryd.func18 (code := code18) (by kernel_rfl) (by kernel_rfl) ?_
  rintro a ⟨l, m, rfl, h⟩
  exact ⟨anns [(4, eqAnn l m)] (dr := [(4, [6, 7, 8, 9, 10, 11])]), kcast (vc18 l m h) (by kernel_rfl)⟩

theorem p8_ok : COk Tryd.prog (ctrs p8) := cok_cons ok17 (cok_cons ok18 (cok_cons ok19 (cok_cons ok20 (cok_cons ok14 cok_nil))))

noncomputable def code10 : Code := match Tryd.f10.body with | some c => c | none => .skip
set_option maxHeartbeats 4000000 in
theorem vc10 : ∀ (b : List Int), sm b.length → okB b → True ∧ sw (decide ((4096 : Int) < (↑b.length : Int))) ((0 : Int) = (getP b).fst.a ∧ (0 : Int) = (getP b).fst.b ∧
  (0 : Int) = (getP b).fst.tag ∧ (getP b).fst.l.length = (0 : Nat) ∧ (4 : Int) = (getP b).snd ∧ (true && true) = true) (True ∧ sw (decide ((↑b.length : Int) < (12 : Int))) ((0 : Int) = (getP b).fst.a ∧
  (0 : Int) = (getP b).fst.b ∧ (0 : Int) = (getP b).fst.tag ∧ (getP b).fst.l.length = (0 : Nat) ∧ (3 : Int) = (getP b).snd ∧ (true && true) = true) (((0 : Int) ≤ (8 : Int) ∧
  (8 : Int) ≤ (12 : Int) ∧ (12 : Int) ≤ (↑b.length : Int)) ∧ ((((80 : Nat) = (80 : Nat) ∧ IntKind.u8 = IntKind.u8 ∧ deTab = deTab) ∧ True) ∧ (∃ (b_1 : List Int), [O.d (D.ints IntKind.u8 b)] = [O.d (D.ints IntKind.u8 b_1)] ∧
  (12 : Nat) ≤ b_1.length ∧ sm b_1.length ∧ okB b_1) ∧ ((∃ (l : List Int), ∃ (m : List Int), [O.d (D.ints IntKind.u8 (pkB b)), O.d (D.ints IntKind.u8 (List.take (4 : Nat) (List.drop (Int.toNat (8 : Int)) b)))] = [O.d (D.ints IntKind.u8 l), O.d (D.ints IntKind.u8 m)] ∧
  sm l.length) ∧ sw (!decide (pkB b = List.take (4 : Nat) (List.drop (Int.toNat (8 : Int)) b))) ((0 : Int) = (getP b).fst.a ∧ (0 : Int) = (getP b).fst.b ∧
  (0 : Int) = (getP b).fst.tag ∧ (getP b).fst.l.length = (0 : Nat) ∧ (5 : Int) = (getP b).snd ∧ (true && true) = true) (((0 : Int) ≤ (12 : Int) ∧ (12 : Int) ≤ (↑b.length : Int)) ∧
  (∃ (b_1 : List Int), [O.d (D.ints IntKind.u8 (List.drop (Int.toNat (12 : Int)) b))] = [O.d (D.ints IntKind.u8 b_1)] ∧ sm b_1.length ∧ okB b_1) ∧ True ∧
  sw (!decide ((getR (List.drop (Int.toNat (12 : Int)) b)).snd = (0 : Int))) ((0 : Int) = (getP b).fst.a ∧ (0 : Int) = (getP b).fst.b ∧ (0 : Int) = (getP b).fst.tag ∧
  (getP b).fst.l.length = (0 : Nat) ∧ (getR (List.drop (Int.toNat (12 : Int)) b)).snd = (getP b).snd ∧ (true && true) = true) ((∃ (b_1 : List Int), ∃ (i : Int), ∃ (k : Nat), [O.d (D.ints IntKind.u8 b), O.d (D.v (Value.int IntKind.i64 (0 : Int))), O.d (D.v (Value.int IntKind.i64 (2 : Int)))] = [O.d (D.ints IntKind.u8 b_1), O.d (D.v (Value.int IntKind.i64 i)), O.d (D.v (Value.int IntKind.i64 (↑k : Int)))] ∧
  sm b_1.length ∧ okB b_1 ∧ okI i ∧ (1 : Nat) ≤ k ∧ k ≤ (8 : Nat)) ∧ (∃ (b_1 : List Int), ∃ (i : Int), ∃ (k : Nat), [O.d (D.ints IntKind.u8 b), O.d (D.v (Value.int IntKind.i64 (2 : Int))), O.d (D.v (Value.int IntKind.i64 (2 : Int)))] = [O.d (D.ints IntKind.u8 b_1), O.d (D.v (Value.int IntKind.i64 i)), O.d (D.v (Value.int IntKind.i64 (↑k : Int)))] ∧
  sm b_1.length ∧ okB b_1 ∧ okI i ∧ (1 : Nat) ≤ k ∧ k ≤ (8 : Nat)) ∧ (∃ (b_1 : List Int), ∃ (i : Int), ∃ (k : Nat), [O.d (D.ints IntKind.u8 b), O.d (D.v (Value.int IntKind.i64 (4 : Int))), O.d (D.v (Value.int IntKind.i64 (4 : Int)))] = [O.d (D.ints IntKind.u8 b_1), O.d (D.v (Value.int IntKind.i64 i)), O.d (D.v (Value.int IntKind.i64 (↑k : Int)))] ∧
  sm b_1.length ∧ okB b_1 ∧ okI i ∧ (1 : Nat) ≤ k ∧ k ≤ (8 : Nat)) ∧ (∃ (p : PacR), [O.agg [O.d (D.v (Value.int IntKind.u16 (IntKind.u16.wrap (valF (partF b (0 : Int) (↑(Int.toNat (2 : Int)) : Int)).fst)))), O.d (D.v (Value.int IntKind.u16 (IntKind.u16.wrap (valF (partF b (2 : Int) (↑(Int.toNat (2 : Int)) : Int)).fst)))), O.d (D.v (Value.int IntKind.u32 (IntKind.u32.wrap (valF (partF b (4 : Int) (↑(Int.toNat (4 : Int)) : Int)).fst)))), O.d (D.recs (3 : Nat) (getR (List.drop (Int.toNat (12 : Int)) b)).fst.length (chCell (getR (List.drop (Int.toNat (12 : Int)) b)).fst))]] = [O.agg [O.d (D.v (Value.int IntKind.u16 p.a)), O.d (D.v (Value.int IntKind.u16 p.b)), O.d (D.v (Value.int IntKind.u32 p.tag)), O.d (D.recs (3 : Nat) p.l.length (chCell p.l))]] ∧
  okChs p.l) ∧ sw (!soundP (PacR.mk (IntKind.u16.wrap (valF (partF b (0 : Int) (↑(Int.toNat (2 : Int)) : Int)).fst)) (IntKind.u16.wrap (valF (partF b (2 : Int) (↑(Int.toNat (2 : Int)) : Int)).fst)) (IntKind.u32.wrap (valF (partF b (4 : Int) (↑(Int.toNat (4 : Int)) : Int)).fst)) (chsOf (D.recs (3 : Nat) (getR (List.drop (Int.toNat (12 : Int)) b)).fst.length (chCell (getR (List.drop (Int.toNat (12 : Int)) b)).fst))))) ((0 : Int) = (getP b).fst.a ∧
  (0 : Int) = (getP b).fst.b ∧ (0 : Int) = (getP b).fst.tag ∧ (getP b).fst.l.length = (0 : Nat) ∧ (2 : Int) = (getP b).snd ∧ (true && true) = true) (IntKind.u16.wrap (valF (partF b (0 : Int) (↑(Int.toNat (2 : Int)) : Int)).fst) = (getP b).fst.a ∧
  IntKind.u16.wrap (valF (partF b (2 : Int) (↑(Int.toNat (2 : Int)) : Int)).fst) = (getP b).fst.b ∧ IntKind.u32.wrap (valF (partF b (4 : Int) (↑(Int.toNat (4 : Int)) : Int)).fst) = (getP b).fst.tag ∧
  ((getR (List.drop (Int.toNat (12 : Int)) b)).fst.length = (getP b).fst.l.length ∧ ∀ (i : Nat), i < (getR (List.drop (Int.toNat (12 : Int)) b)).fst.length →
  ∀ (j : Nat), j < (3 : Nat) → chCell (getR (List.drop (Int.toNat (12 : Int)) b)).fst i j = chCell (getP b).fst.l i j) ∧ (0 : Int) = (getP b).snd ∧ (!false && true && true) = true)))) ∧
  True) ∧ True)) := by
  simp only [↓sw_iff, ↓Bool.and_eq_true, ↓decide_eq_true_eq, ↓decide_eq_false_iff_not, ↓Bool.not_eq_true', ↓Bool.not_eq_false', true_and, and_true, chsOf_chs, toNat2, toNat4, toNat8, toNat12, nAt_eq]
  intro b h hb
  simp only [nAt2 hb, nAt4 hb]
  refine ⟨fun l1 => ?_, fun l1 => ⟨fun l2 => ?_, fun l2 => ?_⟩⟩
  · rw [getP_big l1]; exact ⟨rfl, rfl, rfl, rfl, rfl⟩
  · rw [getP_short l1 l2]; exact ⟨rfl, rfl, rfl, rfl, rfl⟩
  have g1 : b.length ≤ 4096 := by omega
  have g2 : 12 ≤ b.length := by omega
  have ht : ((b.drop 8).take 4).length ≤ 4 := List.length_take_le _ _
  have hd : (b.drop 12).length ≤ b.length := by rw [List.length_drop]; omega
  refine ⟨⟨by omega, by omega, by omega⟩, ⟨b, rfl, g2, h, hb⟩, ⟨_, _, rfl, by rw [pkB_len]; unfold sm; omega⟩, fun e => ?_, fun e => ?_⟩
  · rw [getP_sum g1 g2 e]; exact ⟨rfl, rfl, rfl, rfl, rfl⟩
  refine ⟨⟨by omega, by omega⟩, ⟨_, rfl, by unfold sm; omega, okB_drop hb _⟩, fun g => ?_, fun g => ?_⟩
  · rw [getP_err g1 g2 e g]; exact ⟨rfl, rfl, rfl, rfl, rfl⟩
  refine ⟨⟨b, 0, 2, rfl, by unfold sm; omega, hb, by unfold okI; omega, by omega, by omega⟩, ⟨b, 2, 2, rfl, by unfold sm; omega, hb, by unfold okI; omega, by omega, by omega⟩, ⟨b, 4, 4, rfl, by unfold sm; omega, hb, by unfold okI; omega, by omega, by omega⟩,
    ⟨pacOf b, rfl, getR_ok (okB_drop hb 12)⟩, fun s => ?_, fun s => ?_⟩
  · rw [getP_bad g1 g2 e g s]; exact ⟨rfl, rfl, rfl, rfl, rfl⟩
  · rw [getP_ok g1 g2 e g s]; exact ⟨rfl, rfl, rfl, ⟨rfl, fun _ _ _ _ => rfl⟩, rfl⟩
set_option maxRecDepth 100000 in
theorem ok10 : FnIs Tryd.prog 10 getPC := by
  refine fnIs (C := (ctrs p8)) (by kernel_rfl) p8_ok Tryd.func10 (code := code10) (by kernel_rfl) (by kernel_rfl) ?_
  rintro a ⟨b, rfl, h, hb⟩
  exact ⟨anns [], kcast (vc10 b h hb) (by kernel_rfl)⟩

noncomputable def code40 : Code := match Tryd.f40.body with | some c => c | none => .skip
set_option maxHeartbeats 4000000 in
theorem vc40 : ∀ (n : Int), True ∧ sw (!decide (n = (1 : Int))) (SV.c (Value.int IntKind.u8 n) = SV.c (Value.int IntKind.u8 n)) True ∧ sw (!decide (n = (1 : Int))) ([!decide (n = (1 : Int))] = [!decide (n = (1 : Int))] ∧
  True ∧ SV.c (Value.bool (decide (n = (2 : Int)))) = SV.c (Value.bool (decide (n = (2 : Int))))) True ∧ [!decide (n = (1 : Int))] = [!decide (n = (1 : Int))] ∧
  sw (!(decide (n = (1 : Int)) || decide (n = (2 : Int)))) (SV.c (Value.int IntKind.u8 n) = SV.c (Value.int IntKind.u8 n)) True ∧ sw (!(decide (n = (1 : Int)) || decide (n = (2 : Int)))) ([!(decide (n = (1 : Int)) || decide (n = (2 : Int)))] = [!(decide (n = (1 : Int)) || decide (n = (2 : Int)))] ∧
  True ∧ SV.c (Value.bool (decide (n = (14 : Int)))) = SV.c (Value.bool (decide (n = (14 : Int))))) True ∧ [!(decide (n = (1 : Int)) || decide (n = (2 : Int)))] = [!(decide (n = (1 : Int)) || decide (n = (2 : Int)))] ∧
  (decide (n = (1 : Int)) || decide (n = (2 : Int)) || decide (n = (14 : Int))) = aloneF n ∧ (true && true) = true := by
  simp only [↓sw_iff, ↓Bool.and_eq_true, ↓decide_eq_true_eq, ↓decide_eq_false_iff_not, ↓Bool.not_eq_true', ↓Bool.not_eq_false', true_and, and_true, implies_true]
  intro n
  simp [aloneF]
set_option maxRecDepth 100000 in
theorem ok40 : FnIs Tryd.prog 40 aloneC := by
  refine fnIs (C := (ctrs c0)) (by kernel_rfl) c0_ok Tryd.func40 (code := code40) (by kernel_rfl) (by kernel_rfl) ?_
  rintro a ⟨n, rfl⟩
  exact ⟨anns [], kcast (vc40 n) (by kernel_rfl)⟩

theorem p9_ok : COk Tryd.prog (ctrs p9) := cok_cons ok40 cok_nil

noncomputable def code24 : Code := match Tryd.f24.body with | some c => c | none => .skip
set_option maxHeartbeats 4000000 in
theorem vc24 : ∀ (p : PacR), okChs p.l → True ∧ sw (!decide (p.a = (0 : Int))) (SV.p (1 : Nat) (1 : Nat) = SV.p (1 : Nat) (1 : Nat)) True ∧ sw (!decide (p.a = (0 : Int))) ([!decide (p.a = (0 : Int))] = [!decide (p.a = (0 : Int))] ∧
  SV.c (Value.int IntKind.u16 p.b) = SV.c (Value.int IntKind.u16 p.b)) True ∧ sw (!decide (p.a = (0 : Int))) ([!decide (p.a = (0 : Int))] = [!decide (p.a = (0 : Int))] ∧
  True ∧ SV.c (Value.bool (decide (p.b = (0 : Int)))) = SV.c (Value.bool (decide (p.b = (0 : Int))))) True ∧ [!decide (p.a = (0 : Int))] = [!decide (p.a = (0 : Int))] ∧
  sw (!(decide (p.a = (0 : Int)) || decide (p.b = (0 : Int)))) (SV.p (1 : Nat) (3 : Nat) = SV.p (1 : Nat) (3 : Nat)) True ∧ sw (!(decide (p.a = (0 : Int)) || decide (p.b = (0 : Int)))) ([!(decide (p.a = (0 : Int)) || decide (p.b = (0 : Int)))] = [!(decide (p.a = (0 : Int)) || decide (p.b = (0 : Int)))] ∧
  SV.a (0 : Nat) = SV.a (0 : Nat)) True ∧ sw (!(decide (p.a = (0 : Int)) || decide (p.b = (0 : Int)))) ([!(decide (p.a = (0 : Int)) || decide (p.b = (0 : Int)))] = [!(decide (p.a = (0 : Int)) || decide (p.b = (0 : Int)))] ∧
  SV.c (Value.int IntKind.i64 (↑p.l.length : Int)) = SV.c (Value.int IntKind.i64 (↑p.l.length : Int))) True ∧ sw (!(decide (p.a = (0 : Int)) || decide (p.b = (0 : Int)))) ([!(decide (p.a = (0 : Int)) || decide (p.b = (0 : Int)))] = [!(decide (p.a = (0 : Int)) || decide (p.b = (0 : Int)))] ∧
  True ∧ SV.c (Value.bool (decide ((↑p.l.length : Int) = (0 : Int)))) = SV.c (Value.bool (decide ((↑p.l.length : Int) = (0 : Int))))) True ∧ [!(decide (p.a = (0 : Int)) || decide (p.b = (0 : Int)))] = [!(decide (p.a = (0 : Int)) || decide (p.b = (0 : Int)))] ∧
  sw (decide (p.a = (0 : Int)) || decide (p.b = (0 : Int)) || decide ((↑p.l.length : Int) = (0 : Int))) (false = soundP (PacR.mk p.a p.b p.tag (chsOf (D.recs (3 : Nat) p.l.length (chCell p.l)))) ∧
  (true && true) = true) (∃ (g0 : Nat), (g0 ≤ p.l.length ∧ ∀ (j : Nat), j < g0 → (aloneF (p.l.getD j noCh).t = true → ¬(1 : Nat) < p.l.length) ∧ ((p.l.getD j noCh).t = (1 : Int) ↔ p.tag = (0 : Int))) ∧
  (0 : Int) = (↑g0 : Int) ∧ (true && true) = true ∧ ∀ (g : Nat), (g ≤ p.l.length ∧ ∀ (j : Nat), j < g → (aloneF (p.l.getD j noCh).t = true → ¬(1 : Nat) < p.l.length) ∧
  ((p.l.getD j noCh).t = (1 : Int) ↔ p.tag = (0 : Int))) → True ∧ sw (decide ((↑g : Int) < (↑p.l.length : Int))) (((0 : Int) ≤ (↑g : Int) ∧ (↑g : Int) < (↑p.l.length : Int)) ∧
  (∃ (n : Int), [O.d (D.v (Value.int IntKind.u8 (p.l.getD (↑g : Int).toNat noCh).t))] = [O.d (D.v (Value.int IntKind.u8 n))]) ∧ sw (aloneF (p.l.getD (↑g : Int).toNat noCh).t) (SV.p (1 : Nat) (3 : Nat) = SV.p (1 : Nat) (3 : Nat)) True ∧
  sw (aloneF (p.l.getD (↑g : Int).toNat noCh).t) ([aloneF (p.l.getD (↑g : Int).toNat noCh).t] = [aloneF (p.l.getD (↑g : Int).toNat noCh).t] ∧ SV.a (0 : Nat) = SV.a (0 : Nat)) True ∧
  sw (aloneF (p.l.getD (↑g : Int).toNat noCh).t) ([aloneF (p.l.getD (↑g : Int).toNat noCh).t] = [aloneF (p.l.getD (↑g : Int).toNat noCh).t] ∧ SV.c (Value.int IntKind.i64 (↑p.l.length : Int)) = SV.c (Value.int IntKind.i64 (↑p.l.length : Int))) True ∧
  sw (aloneF (p.l.getD (↑g : Int).toNat noCh).t) ([aloneF (p.l.getD (↑g : Int).toNat noCh).t] = [aloneF (p.l.getD (↑g : Int).toNat noCh).t] ∧ True ∧ SV.c (Value.bool (decide ((1 : Int) < (↑p.l.length : Int)))) = SV.c (Value.bool (decide ((1 : Int) < (↑p.l.length : Int))))) True ∧
  [aloneF (p.l.getD (↑g : Int).toNat noCh).t] = [aloneF (p.l.getD (↑g : Int).toNat noCh).t] ∧ sw (!(aloneF (p.l.getD (↑g : Int).toNat noCh).t && decide ((1 : Int) < (↑p.l.length : Int)))) (SV.c (Value.int IntKind.u8 (p.l.getD (↑g : Int).toNat noCh).t) = SV.c (Value.int IntKind.u8 (p.l.getD (↑g : Int).toNat noCh).t)) True ∧
  sw (!(aloneF (p.l.getD (↑g : Int).toNat noCh).t && decide ((1 : Int) < (↑p.l.length : Int)))) ([!(aloneF (p.l.getD (↑g : Int).toNat noCh).t && decide ((1 : Int) < (↑p.l.length : Int)))] = [!(aloneF (p.l.getD (↑g : Int).toNat noCh).t && decide ((1 : Int) < (↑p.l.length : Int)))] ∧
  True ∧ SV.c (Value.bool (decide ((p.l.getD (↑g : Int).toNat noCh).t = (1 : Int)))) = SV.c (Value.bool (decide ((p.l.getD (↑g : Int).toNat noCh).t = (1 : Int))))) True ∧
  sw (!(aloneF (p.l.getD (↑g : Int).toNat noCh).t && decide ((1 : Int) < (↑p.l.length : Int)))) (SV.p (1 : Nat) (2 : Nat) = SV.p (1 : Nat) (2 : Nat)) True ∧
  sw (!(aloneF (p.l.getD (↑g : Int).toNat noCh).t && decide ((1 : Int) < (↑p.l.length : Int)))) ([!(aloneF (p.l.getD (↑g : Int).toNat noCh).t && decide ((1 : Int) < (↑p.l.length : Int)))] = [!(aloneF (p.l.getD (↑g : Int).toNat noCh).t && decide ((1 : Int) < (↑p.l.length : Int)))] ∧
  SV.c (Value.int IntKind.u32 p.tag) = SV.c (Value.int IntKind.u32 p.tag)) True ∧ sw (!(aloneF (p.l.getD (↑g : Int).toNat noCh).t && decide ((1 : Int) < (↑p.l.length : Int)))) ([!(aloneF (p.l.getD (↑g : Int).toNat noCh).t && decide ((1 : Int) < (↑p.l.length : Int)))] = [!(aloneF (p.l.getD (↑g : Int).toNat noCh).t && decide ((1 : Int) < (↑p.l.length : Int)))] ∧
  True ∧ SV.c (Value.bool (decide (p.tag = (0 : Int)))) = SV.c (Value.bool (decide (p.tag = (0 : Int))))) True ∧ sw (!(aloneF (p.l.getD (↑g : Int).toNat noCh).t && decide ((1 : Int) < (↑p.l.length : Int)))) ([!(aloneF (p.l.getD (↑g : Int).toNat noCh).t && decide ((1 : Int) < (↑p.l.length : Int)))] = [!(aloneF (p.l.getD (↑g : Int).toNat noCh).t && decide ((1 : Int) < (↑p.l.length : Int)))] ∧
  [!(aloneF (p.l.getD (↑g : Int).toNat noCh).t && decide ((1 : Int) < (↑p.l.length : Int)))] = [!(aloneF (p.l.getD (↑g : Int).toNat noCh).t && decide ((1 : Int) < (↑p.l.length : Int)))] ∧
  True ∧ SV.c (Value.bool !decide ((p.l.getD (↑g : Int).toNat noCh).t = (1 : Int)) == decide (p.tag = (0 : Int))) = SV.c (Value.bool !decide ((p.l.getD (↑g : Int).toNat noCh).t = (1 : Int)) == decide (p.tag = (0 : Int)))) True ∧
  [!(aloneF (p.l.getD (↑g : Int).toNat noCh).t && decide ((1 : Int) < (↑p.l.length : Int)))] = [!(aloneF (p.l.getD (↑g : Int).toNat noCh).t && decide ((1 : Int) < (↑p.l.length : Int)))] ∧
  sw (aloneF (p.l.getD (↑g : Int).toNat noCh).t && decide ((1 : Int) < (↑p.l.length : Int)) || !decide ((p.l.getD (↑g : Int).toNat noCh).t = (1 : Int)) == decide (p.tag = (0 : Int))) (false = soundP (PacR.mk p.a p.b p.tag (chsOf (D.recs (3 : Nat) p.l.length (chCell p.l)))) ∧
  (true && true) = true) (True ∧ ∃ (g' : Nat), (g' ≤ p.l.length ∧ ∀ (j : Nat), j < g' → (aloneF (p.l.getD j noCh).t = true → ¬(1 : Nat) < p.l.length) ∧ ((p.l.getD j noCh).t = (1 : Int) ↔ p.tag = (0 : Int))) ∧
  p.l.length - g' < p.l.length - g ∧ (IntKind.i64.wrap ((↑g : Int) + (1 : Int)) = (↑g' : Int) ∧ (true && true && true) = true) ∧ (some (SV.p (1 : Nat) (0 : Nat)) = some (SV.p (1 : Nat) (0 : Nat)) ∧
  True) ∧ some (R.blk (31 : Nat) [SV.c (Value.int IntKind.u16 p.a), SV.c (Value.int IntKind.u16 p.b), SV.c (Value.int IntKind.u32 p.tag), SV.a (0 : Nat)]) = some (R.blk (31 : Nat) [SV.c (Value.int IntKind.u16 p.a), SV.c (Value.int IntKind.u16 p.b), SV.c (Value.int IntKind.u32 p.tag), SV.a (0 : Nat)]) ∧
  some (R.ro (D.recs (3 : Nat) p.l.length (chCell p.l))) = some (R.ro (D.recs (3 : Nat) p.l.length (chCell p.l))) ∧ True)) (true = soundP (PacR.mk p.a p.b p.tag (chsOf (D.recs (3 : Nat) p.l.length (chCell p.l)))) ∧
  (true && true) = true)) := by
  simp only [↓sw_iff, ↓Bool.and_eq_true, ↓Bool.and_eq_false_iff, ↓decide_eq_true_eq, ↓decide_eq_false_iff_not, ↓Bool.not_eq_true', ↓Bool.not_eq_false', true_and, and_true, implies_true, Int.toNat_natCast, chsOf_chs]
  intro p h
  have h' := h.1
  rw [pac_eta]
  refine ⟨fun t => ?_, fun t => ⟨0, ⟨Nat.zero_le _, fun j hj => absurd hj (Nat.not_lt_zero _)⟩, rfl, ?_⟩⟩
  · simp only [Bool.or_eq_true, decide_eq_true_eq] at t
    rw [sound_zero (by omega)]
  simp only [Bool.or_eq_false_iff, decide_eq_false_iff_not] at t
  have hgo := sound_go (p := p) (by omega)
  have al1 : ∀ k : Int, k = 1 → aloneF k = true := fun k hk => by subst hk; rfl
  rintro g ⟨h1, h2⟩
  refine ⟨fun hlt => ⟨⟨by omega, hlt⟩, ⟨_, rfl⟩, fun x => ?_, fun x => ⟨g + 1, ⟨by omega, fun j hj => ?_⟩, by omega, by rw [wrap_i64_id (by omega) (by omega)]; omega⟩⟩, fun hge => ?_⟩
  · rw [hgo]
    simp only [Bool.or_eq_true, Bool.and_eq_true, decide_eq_true_eq, Bool.not_eq_true'] at x
    symm
    rw [Bool.and_eq_false_iff]
    by_cases h1l : p.l.length = 1
    · have g0 : g = 0 := by omega
      subst g0
      rcases x with ⟨_, x⟩ | x
      · omega
      · exact .inr x
    · cases ha : anyAl p.l with
      | true => left; simp [h1l]
      | false =>
        have na : ∀ j, j < p.l.length → aloneF (p.l.getD j noCh).t = false := fun j hj => by
          cases hh : aloneF (p.l.getD j noCh).t with
          | false => rfl
          | true => rw [any_get hj hh] at ha; cases ha
        have n1 : ∀ j, j < p.l.length → (p.l.getD j noCh).t ≠ 1 := fun j hj e => by
          have := na j hj
          rw [al1 _ e] at this; cases this
        rcases x with ⟨x, _⟩ | x
        · rw [na g (by omega)] at x; cases x
        · right
          have e0 := n1 0 (by omega)
          have eg := n1 g (by omega)
          simp only [eg, e0, decide_false] at x ⊢
          exact x
  · by_cases e : j = g
    · subst e
      simp only [Bool.or_eq_false_iff, Bool.and_eq_false_iff, decide_eq_false_iff_not, Bool.not_eq_false', beq_iff_eq, decide_eq_decide] at x
      refine ⟨fun ha => ?_, x.2⟩
      rcases x.1 with x1 | x1
      · rw [ha] at x1; cases x1
      · omega
    · exact h2 j (by omega)
  · have hg : g = p.l.length := by omega
    subst hg
    rw [hgo]
    symm
    rw [Bool.and_eq_true]
    refine ⟨?_, ?_⟩
    · by_cases h1l : p.l.length = 1
      · simp [h1l]
      · rw [any_none fun j hj => ?_]
        · rfl
        · cases hh : aloneF (p.l.getD j noCh).t with
          | false => rfl
          | true => exact absurd (by omega : 1 < p.l.length) ((h2 j hj).1 hh)
    · rw [beq_iff_eq, decide_eq_decide]
      exact (h2 0 (by omega)).2
set_option maxRecDepth 100000 in
theorem ok24 : FnIs Tryd.prog 24 soundPC := by
  refine fnIs (C := (ctrs p9)) (by kernel_rfl) p9_ok Tryd.func24 (code := code24) (by kernel_rfl) (by kernel_rfl) ?_
  rintro a ⟨p, rfl, h⟩
  exact ⟨anns [(4, sndAnn p)] (dr := [(4, [0, 5, 6, 7, 8, 9, 10, 11, 12, 13, 14, 15, 16, 17, 18])]), kcast (vc24 p h) (by kernel_rfl)⟩

theorem p10_ok : COk Tryd.prog (ctrs p10) := cok_cons ok21 (cok_cons ok22 (cok_cons ok23 (cok_cons ok24 cok_nil)))

noncomputable def code11 : Code := match Tryd.f11.body with | some c => c | none => .skip
set_option maxHeartbeats 4000000 in
theorem vc11 : ∀ (b : List Int), sm b.length → okB b → True ∧ sw (decide ((4096 : Int) < (↑b.length : Int))) ((0 : Int) = (getP b).fst.a ∧ (0 : Int) = (getP b).fst.b ∧
  (0 : Int) = (getP b).fst.tag ∧ (getP b).fst.l.length = (0 : Nat) ∧ (4 : Int) = (getP b).snd ∧ (true && true) = true) (True ∧ sw (decide ((↑b.length : Int) < (12 : Int))) ((0 : Int) = (getP b).fst.a ∧
  (0 : Int) = (getP b).fst.b ∧ (0 : Int) = (getP b).fst.tag ∧ (getP b).fst.l.length = (0 : Nat) ∧ (3 : Int) = (getP b).snd ∧ (true && true) = true) (True ∧
  ((0 : Nat) + b.length) * Tryd.prog.types[(5 : Nat)].bytes ≤ (140737488355328 : Nat) ∧ ∃ (g0 : Nat), g0 ≤ (4 : Nat) ∧ (8 : Int) = (↑((8 : Nat) + g0) : Int) ∧
  [] ++ b = List.take (8 : Nat) b ++ List.replicate g0 (0 : Int) ++ List.drop ((8 : Nat) + g0) b ∧ (!false && true && true) = true ∧ ∀ (g : Nat), g ≤ (4 : Nat) →
  True ∧ sw (decide ((↑((8 : Nat) + g) : Int) < (12 : Int))) (((0 : Int) ≤ (↑((8 : Nat) + g) : Int) ∧ (↑((8 : Nat) + g) : Int) < (↑(List.take (8 : Nat) b ++ List.replicate g (0 : Int) ++ List.drop ((8 : Nat) + g) b).length : Int)) ∧
  IntKind.u8 = IntKind.u8 ∧ True ∧ ∃ (g' : Nat), g' ≤ (4 : Nat) ∧ (4 : Nat) - g' < (4 : Nat) - g ∧ (IntKind.i64.wrap ((↑((8 : Nat) + g) : Int) + (1 : Int)) = (↑((8 : Nat) + g') : Int) ∧
  (List.take (8 : Nat) b ++ List.replicate g (0 : Int) ++ List.drop ((8 : Nat) + g) b).set (↑((8 : Nat) + g) : Int).toNat (0 : Int) = List.take (8 : Nat) b ++ List.replicate g' (0 : Int) ++ List.drop ((8 : Nat) + g') b ∧
  (!false && true && true && ((Nat.ble (4 : Nat) (4 : Nat) || (Nat.beq (3 : Nat) (4 : Nat) || false)) && true)) = true) ∧ (some (SV.c (Value.int IntKind.i64 (0 : Int))) = some (SV.c (Value.int IntKind.i64 (0 : Int))) ∧
  some (SV.p (1 : Nat) (0 : Nat)) = some (SV.p (1 : Nat) (0 : Nat)) ∧ some (SV.a (0 : Nat)) = some (SV.a (0 : Nat)) ∧ True) ∧ some R.dead = some R.dead ∧
  some (R.blk (31 : Nat) [SV.c (Value.int IntKind.u16 (0 : Int)), SV.c (Value.int IntKind.u16 (0 : Int)), SV.c (Value.int IntKind.u32 (0 : Int)), SV.nil]) = some (R.blk (31 : Nat) [SV.c (Value.int IntKind.u16 (0 : Int)), SV.c (Value.int IntKind.u16 (0 : Int)), SV.c (Value.int IntKind.u32 (0 : Int)), SV.nil]) ∧
  some (R.ro (D.ints IntKind.u8 b)) = some (R.ro (D.ints IntKind.u8 b)) ∧ True) ((∃ (b_1 : List Int), [O.d (D.ints IntKind.u8 (List.take (8 : Nat) b ++ List.replicate g (0 : Int) ++ List.drop ((8 : Nat) + g) b))] = [O.d (D.ints IntKind.u8 b_1)] ∧
  sm b_1.length ∧ okB b_1) ∧ ∃ (g0_1 : Nat), (g0_1 ≤ (4 : Nat) ∧ ∀ (j : Nat), j < g0_1 → b.getD ((8 : Nat) + j) (0 : Int) = sumF (List.take (8 : Nat) b ++ List.replicate (4 : Nat) (0 : Int) ++ List.drop (12 : Nat) b) / (256 : Int) ^ j % (256 : Int)) ∧
  (0 : Int) = (↑g0_1 : Int) ∧ (true && true) = true ∧ ∀ (g_1 : Nat), (g_1 ≤ (4 : Nat) ∧ ∀ (j : Nat), j < g_1 → b.getD ((8 : Nat) + j) (0 : Int) = sumF (List.take (8 : Nat) b ++ List.replicate (4 : Nat) (0 : Int) ++ List.drop (12 : Nat) b) / (256 : Int) ^ j % (256 : Int)) →
  True ∧ sw (decide ((↑g_1 : Int) < (4 : Int))) (True ∧ ((0 : Int) ≤ IntKind.i64.wrap ((8 : Int) + (↑g_1 : Int)) ∧ IntKind.i64.wrap ((8 : Int) + (↑g_1 : Int)) < (↑b.length : Int)) ∧
  True ∧ (0 : Int) ≤ IntKind.u64.wrap (IntKind.i64.wrap ((8 : Int) * (↑g_1 : Int))) ∧ True ∧ sw (!decide (b.getD (IntKind.i64.wrap ((8 : Int) + (↑g_1 : Int))).toNat (0 : Int) = IntKind.u8.wrap ((sumF (List.take (8 : Nat) b ++ List.replicate g (0 : Int) ++ List.drop ((8 : Nat) + g) b)).fdiv ((2 : Int) ^ min (IntKind.u64.wrap (IntKind.i64.wrap ((8 : Int) * (↑g_1 : Int)))).toNat IntKind.u32.bits)))) ((0 : Int) = (getP b).fst.a ∧
  (0 : Int) = (getP b).fst.b ∧ (0 : Int) = (getP b).fst.tag ∧ (getP b).fst.l.length = (0 : Nat) ∧ (5 : Int) = (getP b).snd ∧ (true && true) = true) (True ∧
  ∃ (g' : Nat), (g' ≤ (4 : Nat) ∧ ∀ (j : Nat), j < g' → b.getD ((8 : Nat) + j) (0 : Int) = sumF (List.take (8 : Nat) b ++ List.replicate (4 : Nat) (0 : Int) ++ List.drop (12 : Nat) b) / (256 : Int) ^ j % (256 : Int)) ∧
  (4 : Nat) - g' < (4 : Nat) - g_1 ∧ (IntKind.i64.wrap ((↑g_1 : Int) + (1 : Int)) = (↑g' : Int) ∧ (true && true && true) = true) ∧ (some (SV.c (Value.int IntKind.u32 (sumF (List.take (8 : Nat) b ++ List.replicate g (0 : Int) ++ List.drop ((8 : Nat) + g) b)))) = some (SV.c (Value.int IntKind.u32 (sumF (List.take (8 : Nat) b ++ List.replicate g (0 : Int) ++ List.drop ((8 : Nat) + g) b)))) ∧
  some (SV.p (1 : Nat) (0 : Nat)) = some (SV.p (1 : Nat) (0 : Nat)) ∧ some (SV.a (0 : Nat)) = some (SV.a (0 : Nat)) ∧ True) ∧ some (R.own (5 : Nat) (D.ints IntKind.u8 (List.take (8 : Nat) b ++ List.replicate g (0 : Int) ++ List.drop ((8 : Nat) + g) b))) = some (R.own (5 : Nat) (D.ints IntKind.u8 (List.take (8 : Nat) b ++ List.replicate g (0 : Int) ++ List.drop ((8 : Nat) + g) b))) ∧
  some R.dead = some R.dead ∧ some R.dead = some R.dead ∧ some (R.blk (31 : Nat) [SV.c (Value.int IntKind.u16 (0 : Int)), SV.c (Value.int IntKind.u16 (0 : Int)), SV.c (Value.int IntKind.u32 (0 : Int)), SV.nil]) = some (R.blk (31 : Nat) [SV.c (Value.int IntKind.u16 (0 : Int)), SV.c (Value.int IntKind.u16 (0 : Int)), SV.c (Value.int IntKind.u32 (0 : Int)), SV.nil]) ∧
  some (R.ro (D.ints IntKind.u8 b)) = some (R.ro (D.ints IntKind.u8 b)) ∧ True)) (((0 : Int) ≤ (12 : Int) ∧ (12 : Int) ≤ (↑b.length : Int)) ∧ (∃ (b_1 : List Int), [O.d (D.ints IntKind.u8 (List.drop (Int.toNat (12 : Int)) b))] = [O.d (D.ints IntKind.u8 b_1)] ∧
  sm b_1.length ∧ okB b_1) ∧ True ∧ sw (!decide ((getR (List.drop (Int.toNat (12 : Int)) b)).snd = (0 : Int))) ((0 : Int) = (getP b).fst.a ∧ (0 : Int) = (getP b).fst.b ∧
  (0 : Int) = (getP b).fst.tag ∧ (getP b).fst.l.length = (0 : Nat) ∧ (getR (List.drop (Int.toNat (12 : Int)) b)).snd = (getP b).snd ∧ (true && true) = true) ((∃ (b_1 : List Int), ∃ (i : Int), ∃ (k : Nat), [O.d (D.ints IntKind.u8 b), O.d (D.v (Value.int IntKind.i64 (0 : Int))), O.d (D.v (Value.int IntKind.i64 (2 : Int)))] = [O.d (D.ints IntKind.u8 b_1), O.d (D.v (Value.int IntKind.i64 i)), O.d (D.v (Value.int IntKind.i64 (↑k : Int)))] ∧
  sm b_1.length ∧ okB b_1 ∧ okI i ∧ (1 : Nat) ≤ k ∧ k ≤ (7 : Nat)) ∧ (∃ (b_1 : List Int), ∃ (i : Int), ∃ (k : Nat), [O.d (D.ints IntKind.u8 b), O.d (D.v (Value.int IntKind.i64 (2 : Int))), O.d (D.v (Value.int IntKind.i64 (2 : Int)))] = [O.d (D.ints IntKind.u8 b_1), O.d (D.v (Value.int IntKind.i64 i)), O.d (D.v (Value.int IntKind.i64 (↑k : Int)))] ∧
  sm b_1.length ∧ okB b_1 ∧ okI i ∧ (1 : Nat) ≤ k ∧ k ≤ (7 : Nat)) ∧ (∃ (b_1 : List Int), ∃ (i : Int), ∃ (k : Nat), [O.d (D.ints IntKind.u8 b), O.d (D.v (Value.int IntKind.i64 (4 : Int))), O.d (D.v (Value.int IntKind.i64 (4 : Int)))] = [O.d (D.ints IntKind.u8 b_1), O.d (D.v (Value.int IntKind.i64 i)), O.d (D.v (Value.int IntKind.i64 (↑k : Int)))] ∧
  sm b_1.length ∧ okB b_1 ∧ okI i ∧ (1 : Nat) ≤ k ∧ k ≤ (7 : Nat)) ∧ (∃ (p : PacR), [O.agg [O.d (D.v (Value.int IntKind.u16 (IntKind.u16.wrap (valF (partF b (0 : Int) (↑(Int.toNat (2 : Int)) : Int)).fst)))), O.d (D.v (Value.int IntKind.u16 (IntKind.u16.wrap (valF (partF b (2 : Int) (↑(Int.toNat (2 : Int)) : Int)).fst)))), O.d (D.v (Value.int IntKind.u32 (IntKind.u32.wrap (valF (partF b (4 : Int) (↑(Int.toNat (4 : Int)) : Int)).fst)))), O.d (D.recs (3 : Nat) (getR (List.drop (Int.toNat (12 : Int)) b)).fst.length (chCell (getR (List.drop (Int.toNat (12 : Int)) b)).fst))]] = [O.agg [O.d (D.v (Value.int IntKind.u16 p.a)), O.d (D.v (Value.int IntKind.u16 p.b)), O.d (D.v (Value.int IntKind.u32 p.tag)), O.d (D.recs (3 : Nat) p.l.length (chCell p.l))]] ∧
  okChs p.l) ∧ sw (!soundP (PacR.mk (IntKind.u16.wrap (valF (partF b (0 : Int) (↑(Int.toNat (2 : Int)) : Int)).fst)) (IntKind.u16.wrap (valF (partF b (2 : Int) (↑(Int.toNat (2 : Int)) : Int)).fst)) (IntKind.u32.wrap (valF (partF b (4 : Int) (↑(Int.toNat (4 : Int)) : Int)).fst)) (chsOf (D.recs (3 : Nat) (getR (List.drop (Int.toNat (12 : Int)) b)).fst.length (chCell (getR (List.drop (Int.toNat (12 : Int)) b)).fst))))) ((0 : Int) = (getP b).fst.a ∧
  (0 : Int) = (getP b).fst.b ∧ (0 : Int) = (getP b).fst.tag ∧ (getP b).fst.l.length = (0 : Nat) ∧ (2 : Int) = (getP b).snd ∧ (true && true) = true) (IntKind.u16.wrap (valF (partF b (0 : Int) (↑(Int.toNat (2 : Int)) : Int)).fst) = (getP b).fst.a ∧
  IntKind.u16.wrap (valF (partF b (2 : Int) (↑(Int.toNat (2 : Int)) : Int)).fst) = (getP b).fst.b ∧ IntKind.u32.wrap (valF (partF b (4 : Int) (↑(Int.toNat (4 : Int)) : Int)).fst) = (getP b).fst.tag ∧
  ((getR (List.drop (Int.toNat (12 : Int)) b)).fst.length = (getP b).fst.l.length ∧ ∀ (i : Nat), i < (getR (List.drop (Int.toNat (12 : Int)) b)).fst.length →
  ∀ (j : Nat), j < (3 : Nat) → chCell (getR (List.drop (Int.toNat (12 : Int)) b)).fst i j = chCell (getP b).fst.l i j) ∧ (0 : Int) = (getP b).snd ∧ (!false && true && true) = true)))))) := by
  simp only [↓sw_iff, ↓Bool.and_eq_true, ↓decide_eq_true_eq, ↓decide_eq_false_iff_not, ↓Bool.not_eq_true', ↓Bool.not_eq_false', true_and, and_true, Bool.or_false, Nat.ble, Nat.beq, Int.toNat_natCast, Nat.zero_add, List.nil_append, List.length_append, Nat.mul_one, chsOf_chs, toNat2, toNat4, toNat12, nAt_eq, bytes5]
  intro b h hb
  simp only [nAt2 hb, nAt4 hb]
  refine ⟨fun l1 => ?_, fun l1 => ⟨fun l2 => ?_, fun l2 => ?_⟩⟩
  · rw [getP_big l1]; exact ⟨rfl, rfl, rfl, rfl, rfl⟩
  · rw [getP_short l1 l2]; exact ⟨rfl, rfl, rfl, rfl, rfl⟩
  have g1 : b.length ≤ 4096 := by omega
  have g2 : 12 ≤ b.length := by omega
  have ht : ((b.drop 8).take 4).length ≤ 4 := List.length_take_le _ _
  have hd : (b.drop 12).length ≤ b.length := by rw [List.length_drop]; omega
  refine ⟨by omega, 0, by omega, rfl, by simp, fun z hz => ⟨fun hlt => ?_, fun hge => ?_⟩⟩
  · exact ⟨⟨by omega, by simp; omega⟩, z + 1, by omega, by omega, by rw [wrap_i64_id (by omega) (by omega)]; omega, set_zero (by omega)⟩
  have : z = 4 := by omega
  subst this
  have hs := pkSum_eq b
  have h8 : (b.take 8 ++ List.replicate 4 (0 : Int) ++ b.drop (8 + 4)).length ≤ b.length + 12 := by
    simp only [List.length_append, List.length_take, List.length_drop, List.length_replicate]; omega
  refine ⟨⟨_, rfl, by unfold sm; omega, okB_append (okB_append (okB_take hb _) (fun x hx => by have := List.eq_of_mem_replicate hx; omega)) (okB_drop hb _)⟩, 0, ⟨by omega, fun j hj => absurd hj (Nat.not_lt_zero _)⟩, rfl, ?_⟩
  rintro k ⟨hk, hc⟩
  rw [← hs] at hc ⊢
  refine ⟨fun hlt => ?_, fun hge => ?_⟩
  · have e8 : IntKind.i64.wrap (8 + (k : Int)) = ((8 + k : Nat) : Int) := by rw [wrap_i64_id (by omega) (by omega)]; omega
    rw [e8, Int.toNat_natCast, tb_shift _ k (by omega)]
    refine ⟨⟨by omega, by omega⟩, by rw [IntKind.wrap_u64]; omega, fun hx => ?_, fun hx => ⟨k + 1, ⟨by omega, fun j hj => ?_⟩, by omega, by rw [wrap_i64_id (by omega) (by omega)]; omega⟩⟩
    · rw [getP_sum g1 g2 (fun e => hx ((pk_same g2).1 e k (by omega)))]; exact ⟨rfl, rfl, rfl, rfl, rfl⟩
    · by_cases e : j = k
      · subst e; exact hx
      · exact hc j (by omega)
  have e : pkB b = (b.drop 8).take 4 := (pk_same g2).2 fun j hj => hc j (by omega)
  refine ⟨⟨by omega, by omega⟩, ⟨_, rfl, by unfold sm; omega, okB_drop hb _⟩, fun g => ?_, fun g => ?_⟩
  · rw [getP_err g1 g2 e g]; exact ⟨rfl, rfl, rfl, rfl, rfl⟩
  refine ⟨⟨b, 0, 2, rfl, by unfold sm; omega, hb, by unfold okI; omega, by omega, by omega⟩, ⟨b, 2, 2, rfl, by unfold sm; omega, hb, by unfold okI; omega, by omega, by omega⟩, ⟨b, 4, 4, rfl, by unfold sm; omega, hb, by unfold okI; omega, by omega, by omega⟩,
    ⟨pacOf b, rfl, getR_ok (okB_drop hb 12)⟩, fun s => ?_, fun s => ?_⟩
  · rw [getP_bad g1 g2 e g s]; exact ⟨rfl, rfl, rfl, rfl, rfl⟩
  · rw [getP_ok g1 g2 e g s]; exact ⟨rfl, rfl, rfl, ⟨rfl, fun _ _ _ _ => rfl⟩, rfl⟩
set_option maxRecDepth 100000 in
theorem ok11 : FnIs Tryd.prog 11 getPRC := by
  refine fnIs (C := (ctrs p10)) (by kernel_rfl) p10_ok Tryd.func11 (code := code11) (by kernel_rfl) (by kernel_rfl) ?_
  rintro a ⟨b, rfl, h, hb⟩
  exact ⟨anns [(7, zeroA b), (12, cmpA b (sumF (b.take 8 ++ List.replicate 4 0 ++ b.drop 12)))] (dr := [(7, [11, 12, 13, 14, 15, 16, 17, 18, 19, 20, 21]), (12, [4, 5, 11, 12, 13, 14, 15, 16, 17, 18, 19, 20, 21, 22, 23, 24, 25, 26, 27, 28, 29, 30])]), kcast (vc11 b h hb) (by kernel_rfl)⟩

theorem p11_ok : COk Tryd.prog (ctrs p11) := cok_cons ok25w cok_nil

noncomputable def code12 : Code := match Tryd.f12.body with | some c => c | none => .skip
set_option maxHeartbeats 4000000 in
theorem vc12 : ∀ (p q : PacR), okChs p.l → okChs q.l → True ∧ sw (decide (p.a = q.a)) (True ∧ sw (decide (p.b = q.b)) (True ∧ sw (decide (p.tag = q.tag)) ((∃ (l : List ChR), ∃ (m : List ChR), ∃ (A : D), ∃ (B : D), [O.d (D.recs (3 : Nat) p.l.length (chCell p.l)), O.d (D.recs (3 : Nat) q.l.length (chCell q.l))] = [O.d A, O.d B] ∧
  okChs l ∧ okChs m ∧ asCh A l ∧ asCh B m) ∧ sameChs (chsOf (D.recs (3 : Nat) p.l.length (chCell p.l))) (chsOf (D.recs (3 : Nat) q.l.length (chCell q.l))) = sameP (PacR.mk p.a p.b p.tag (chsOf (D.recs (3 : Nat) p.l.length (chCell p.l)))) (PacR.mk q.a q.b q.tag (chsOf (D.recs (3 : Nat) q.l.length (chCell q.l)))) ∧
  (true && true) = true) (false = sameP (PacR.mk p.a p.b p.tag (chsOf (D.recs (3 : Nat) p.l.length (chCell p.l)))) (PacR.mk q.a q.b q.tag (chsOf (D.recs (3 : Nat) q.l.length (chCell q.l)))) ∧
  (true && true) = true)) (false = sameP (PacR.mk p.a p.b p.tag (chsOf (D.recs (3 : Nat) p.l.length (chCell p.l)))) (PacR.mk q.a q.b q.tag (chsOf (D.recs (3 : Nat) q.l.length (chCell q.l)))) ∧
  (true && true) = true)) (false = sameP (PacR.mk p.a p.b p.tag (chsOf (D.recs (3 : Nat) p.l.length (chCell p.l)))) (PacR.mk q.a q.b q.tag (chsOf (D.recs (3 : Nat) q.l.length (chCell q.l)))) ∧
  (true && true) = true) := by
  simp only [↓sw_iff, ↓Bool.and_eq_true, ↓decide_eq_true_eq, ↓decide_eq_false_iff_not, true_and, and_true, chsOf_chs]
  intro p q h1 h2
  refine ⟨fun a => ⟨fun b => ⟨fun c => ⟨⟨p.l, q.l, _, _, rfl, h1, h2, asCh_self _, asCh_self _⟩, ?_⟩, fun c => ?_⟩, fun b => ?_⟩, fun a => ?_⟩
  · simp [sameP, a, b, c]
  · simp [sameP, c]
  · simp [sameP, b]
  · simp [sameP, a]
set_option maxRecDepth 100000 in
theorem ok12 : FnIs Tryd.prog 12 samePC0 := by
  refine fnIs (C := (ctrs p11)) (by kernel_rfl) p11_ok Tryd.func12 (code := code12) (by kernel_rfl) (by kernel_rfl) ?_
  rintro a ⟨p, q, rfl, h1, h2⟩
  exact ⟨anns [] [1], kcast (vc12 p q h1 h2) (by kernel_rfl)⟩

theorem ok12w : FnIs Tryd.prog 12 samePC := by
  refine ok12.weak fun a hp => ?_
  obtain ⟨p, q, A, B, rfl, h1, h2, ⟨r1, r2⟩, ⟨s1, s2⟩⟩ := hp
  refine ⟨[pacO p, pacO q], ⟨p, q, rfl, h1, h2⟩, ?_, ?_, rfl⟩
  · exact toL_cons (toO_agg (toL_cons (toO_refl _) (toL_cons (toO_refl _) (toL_cons (toO_refl _) (toL_cons (toO_d r2) (toL_refl _)))))) (toL_cons (toO_agg (toL_cons (toO_refl _) (toL_cons (toO_refl _) (toL_cons (toO_refl _) (toL_cons (toO_d s2) (toL_refl _)))))) (toL_refl _))
  · show [bO (sameP (PacR.mk p.a p.b p.tag (chsOf (chsD p.l))) (PacR.mk q.a q.b q.tag (chsOf (chsD q.l))))] = [bO (sameP (PacR.mk p.a p.b p.tag (chsOf A)) (PacR.mk q.a q.b q.tag (chsOf B)))]
    rw [r1, s1, chsD, chsD, chsOf_chs, chsOf_chs]

end Go.ZR

/- The statements of packets: bursts, contracts. -/
set_option maxRecDepth 100000
namespace Go.ZM
open Go.Z Go.ZR
def okU (n : Int) : Prop := 0 ≤ n ∧ n ≤ 4294967295
/-- A turn's byte; bytes of which some were turned. -/
def tbF (t : Int) (k : Nat) : Int := (t / 256 ^ k) % 256
def turnB (b : List Int) (i : Nat) (t : Int) : Nat → List Int
  | 0 => b
  | k + 1 => (turnB b i t k).set (i + k) (bits .xor .u8 ((turnB b i t k).getD (i + k) 0) (tbF t k))
/-! Four bytes in a row -/
def w4 (x0 x1 x2 x3 : Int) : BitVec 32 := bv x0 ^^^ (bv x1 <<< 8) ^^^ (bv x2 <<< 16) ^^^ (bv x3 <<< 24)
def isB (x : Int) : Prop := 0 ≤ x ∧ x ≤ 255
theorem byte_high {x : Int} (h : isB x) {i : Nat} (hi : 8 ≤ i) : (bv x).getLsbD i = false := by
  have e := iv_bv h.1 (show x ≤ 4294967295 by have := h.2; omega)
  unfold iv at e
  rw [BitVec.getLsbD]
  apply Nat.testBit_lt_two_pow
  have : 2 ^ 8 ≤ 2 ^ i := Nat.pow_le_pow_right (by decide) hi
  have := h.2
  omega
theorem shl_bits {x : Int} (h : isB x) (n : Nat) (hn : n ≤ 24) (A : BitVec 32) : sN n (A ^^^ (bv x <<< n)) = sN n A ^^^ bv x := by
  rw [sN_xor]
  congr 1
  rw [sN_shr n _ (fun i hi => by rw [BitVec.getLsbD_shiftLeft]; simp [hi])]
  apply BitVec.eq_of_getLsbD_eq
  intro i hi
  rw [BitVec.getLsbD_ushiftRight, BitVec.getLsbD_shiftLeft]
  by_cases h8 : i < 8
  · have : n + i < 32 := by omega
    simp [this]
  · rw [byte_high h (by omega)]
    simp [byte_high h (show 8 ≤ i by omega)]
theorem crc_four (c : BitVec 32) {x0 x1 x2 x3 : Int} (_h0 : isB x0) (h1 : isB x1) (h2 : isB x2) (h3 : isB x3) : crcR c [x0, x1, x2, x3] = sN 32 (c ^^^ w4 x0 x1 x2 x3) := by
  have e3 := shl_bits h3 24 (by decide) (c ^^^ bv x0 ^^^ (bv x1 <<< 8) ^^^ (bv x2 <<< 16))
  have e2 := shl_bits h2 16 (by decide) (c ^^^ bv x0 ^^^ (bv x1 <<< 8))
  have e1 := shl_bits h1 8 (by decide) (c ^^^ bv x0)
  have a : c ^^^ w4 x0 x1 x2 x3 = c ^^^ bv x0 ^^^ (bv x1 <<< 8) ^^^ (bv x2 <<< 16) ^^^ (bv x3 <<< 24) := by
    unfold w4; simp only [BitVec.xor_assoc]
  rw [a, show sN 32 = sN (8 + 24) from rfl, sN_add, e3, show sN 24 = sN (8 + 16) from rfl, sN_add, e2, show sN 16 = sN (8 + 8) from rfl, sN_add, e1]
  rfl
theorem w4_bit {x0 x1 x2 x3 : Int} (h0 : isB x0) (h1 : isB x1) (h2 : isB x2) (_h3 : isB x3) {j : Nat} (hj : j < 8) :
    ((w4 x0 x1 x2 x3).getLsbD j = (bv x0).getLsbD j ∧ (w4 x0 x1 x2 x3).getLsbD (8 + j) = (bv x1).getLsbD j) ∧ ((w4 x0 x1 x2 x3).getLsbD (16 + j) = (bv x2).getLsbD j ∧ (w4 x0 x1 x2 x3).getLsbD (24 + j) = (bv x3).getLsbD j) := by
  unfold w4
  simp only [BitVec.getLsbD_xor, BitVec.getLsbD_shiftLeft]
  refine ⟨⟨?_, ?_⟩, ?_, ?_⟩
  · simp [show j < 16 by omega, show j < 24 by omega, hj]
  · rw [byte_high h0 (by omega)]
    simp [show 8 + j < 16 by omega, show 8 + j < 24 by omega, show 8 + j < 32 by omega]
  · rw [byte_high h0 (by omega), byte_high h1 (show 8 ≤ 16 + j - 8 by omega)]
    simp [show 16 + j < 24 by omega, show 16 + j < 32 by omega]
  · rw [byte_high h0 (by omega), byte_high h1 (show 8 ≤ 24 + j - 8 by omega), byte_high h2 (show 8 ≤ 24 + j - 16 by omega)]
    simp [show 24 + j < 32 by omega]
theorem byte_ext {x y : Int} (hx : isB x) (hy : isB y) (h : ∀ j, j < 8 → (bv x).getLsbD j = (bv y).getLsbD j) : x = y := by
  have : bv x = bv y := by
    apply BitVec.eq_of_getLsbD_eq
    intro i _
    by_cases h8 : i < 8
    · exact h i h8
    · rw [byte_high hx (by omega), byte_high hy (by omega)]
  have e1 := iv_bv hx.1 (show x ≤ 4294967295 by have := hx.2; omega)
  have e2 := iv_bv hy.1 (show y ≤ 4294967295 by have := hy.2; omega)
  rw [← e1, ← e2, this]
theorem four_inj {c : BitVec 32} {x0 x1 x2 x3 y0 y1 y2 y3 : Int} (h0 : isB x0) (h1 : isB x1) (h2 : isB x2) (h3 : isB x3) (g0 : isB y0) (g1 : isB y1) (g2 : isB y2) (g3 : isB y3)
    (h : crcR c [x0, x1, x2, x3] = crcR c [y0, y1, y2, y3]) : (x0 = y0 ∧ x1 = y1) ∧ x2 = y2 ∧ x3 = y3 := by
  rw [crc_four c h0 h1 h2 h3, crc_four c g0 g1 g2 g3] at h
  have e : w4 x0 x1 x2 x3 = w4 y0 y1 y2 y3 := by
    rw [sN_xor, sN_xor] at h
    have h' := congrArg (fun z => sN 32 c ^^^ z) h
    simp only [← BitVec.xor_assoc, BitVec.xor_self, BitVec.zero_xor] at h'
    have h2 : sN 32 (w4 x0 x1 x2 x3 ^^^ w4 y0 y1 y2 y3) = 0#32 := by rw [sN_xor, h', BitVec.xor_self]
    have h3 := sN_inj 32 h2
    have := congrArg (fun z => w4 x0 x1 x2 x3 ^^^ z) h3
    simpa [← BitVec.xor_assoc] using this.symm
  refine ⟨⟨byte_ext h0 g0 fun j hj => ?_, byte_ext h1 g1 fun j hj => ?_⟩, byte_ext h2 g2 fun j hj => ?_, byte_ext h3 g3 fun j hj => ?_⟩
  · rw [← (w4_bit h0 h1 h2 h3 hj).1.1, e, (w4_bit g0 g1 g2 g3 hj).1.1]
  · rw [← (w4_bit h0 h1 h2 h3 hj).1.2, e, (w4_bit g0 g1 g2 g3 hj).1.2]
  · rw [← (w4_bit h0 h1 h2 h3 hj).2.1, e, (w4_bit g0 g1 g2 g3 hj).2.1]
  · rw [← (w4_bit h0 h1 h2 h3 hj).2.2, e, (w4_bit g0 g1 g2 g3 hj).2.2]

/-! Bytes turned -/
theorem xor8_isB (x t : Int) : isB (bits .xor .u8 x t) := by
  show 0 ≤ IntKind.u8.wrap _ ∧ IntKind.u8.wrap _ ≤ 255
  rw [IntKind.wrap_u8]; omega
theorem xor8_same {x t : Int} (hx : isB x) (ht : isB t) (h : bits .xor .u8 x t = x) : t = 0 := by
  have h' : IntKind.u8.wrap ((BitVec.ofInt 8 x ^^^ BitVec.ofInt 8 t).toNat : Int) = x := h
  rw [IntKind.wrap_u8] at h'
  have hx1 : (BitVec.ofInt 8 x).toNat = x.toNat := by rw [BitVec.toNat_ofInt]; unfold isB at hx; omega
  have ht1 : (BitVec.ofInt 8 t).toNat = t.toNat := by rw [BitVec.toNat_ofInt]; unfold isB at ht; omega
  have lt := (BitVec.ofInt 8 x ^^^ BitVec.ofInt 8 t).isLt
  have e : BitVec.ofInt 8 x ^^^ BitVec.ofInt 8 t = BitVec.ofInt 8 x := by
    apply BitVec.eq_of_toNat_eq
    rw [hx1]
    unfold isB at hx
    omega
  have e2 := congrArg (fun z => BitVec.ofInt 8 x ^^^ z) e
  simp only [← BitVec.xor_assoc, BitVec.xor_self, BitVec.zero_xor] at e2
  rw [e2] at ht1
  have : (0#8).toNat = 0 := rfl
  unfold isB at ht
  omega
theorem tb_isB (t : Int) (k : Nat) : isB (tbF t k) := by unfold isB tbF; omega
theorem tb_zero {t : Int} (h : okU t) (h0 : tbF t 0 = 0) (h1 : tbF t 1 = 0) (h2 : tbF t 2 = 0) (h3 : tbF t 3 = 0) : t = 0 := by
  unfold tbF at *
  unfold okU at h
  simp only [show (256 : Int) ^ 0 = 1 from rfl, show (256 : Int) ^ 1 = 256 from rfl, show (256 : Int) ^ 2 = 65536 from rfl, show (256 : Int) ^ 3 = 16777216 from rfl] at *
  omega
theorem turnB_len (b : List Int) (i : Nat) (t : Int) : ∀ k, (turnB b i t k).length = b.length
  | 0 => rfl
  | k + 1 => by rw [turnB, List.length_set, turnB_len b i t k]
theorem turnB_okB {b : List Int} (h : okB b) (i : Nat) (t : Int) : ∀ k, okB (turnB b i t k)
  | 0 => h
  | k + 1 => by
    rw [turnB]
    intro x hx
    rcases List.mem_or_eq_of_mem_set hx with h1 | h1
    · exact turnB_okB h i t k x h1
    · rw [h1]; exact xor8_isB _ _
theorem getD_set (l : List Int) (i j : Nat) (a : Int) (hi : i < l.length) : (l.set i a).getD j 0 = if i = j then a else l.getD j 0 := by
  simp only [List.getD, List.getElem?_set]
  by_cases e : i = j
  · subst e; simp [hi]
  · simp [e]
theorem turnB_get {b : List Int} {i : Nat} (t : Int) : ∀ {k : Nat}, i + k ≤ b.length → ∀ j, (turnB b i t k).getD j 0 = if i ≤ j ∧ j < i + k then bits .xor .u8 (b.getD j 0) (tbF t (j - i)) else b.getD j 0
  | 0, _, j => by rw [if_neg (by omega)]; rfl
  | k + 1, h, j => by
    rw [turnB, getD_set _ _ _ _ (by rw [turnB_len]; omega), turnB_get t (by omega), turnB_get t (by omega)]
    by_cases e : i + k = j
    · subst e
      rw [if_pos rfl, if_neg (by omega), if_pos (by omega), show i + k - i = k by omega]
    · rw [if_neg e]
      by_cases h1 : i ≤ j ∧ j < i + k
      · rw [if_pos h1, if_pos (by omega)]
      · rw [if_neg h1, if_neg (by omega)]
theorem ext_getD {l m : List Int} (hl : l.length = m.length) (h : ∀ j, j < l.length → l.getD j 0 = m.getD j 0) : l = m := by
  apply List.ext_getElem hl
  intro j h1 h2
  have := h j h1
  simpa [List.getD, List.getElem?_eq_getElem h1, List.getElem?_eq_getElem h2] using this
/-- A stretch of four. -/
theorem four_split {l : List Int} {i : Nat} (h : i + 4 ≤ l.length) : l = l.take i ++ ([l.getD i 0, l.getD (i + 1) 0, l.getD (i + 2) 0, l.getD (i + 3) 0] ++ l.drop (i + 4)) := by
  have e0 := take_succ_getD (l := l) (j := i) (by omega)
  have e1 := take_succ_getD (l := l) (j := i + 1) (by omega)
  have e2 := take_succ_getD (l := l) (j := i + 2) (by omega)
  have e3 := take_succ_getD (l := l) (j := i + 3) (by omega)
  have : l.take (i + 4) = l.take i ++ [l.getD i 0, l.getD (i + 1) 0, l.getD (i + 2) 0, l.getD (i + 3) 0] := by
    rw [show i + 4 = i + 3 + 1 from rfl, e3, e2, e1, e0]; simp
  rw [← List.append_assoc, ← this, List.take_append_drop]
theorem turn_take {b : List Int} {i n : Nat} {t : Int} (h : i + 4 ≤ b.length) (hn : n ≤ i) : (turnB b i t 4).take n = b.take n := by
  apply ext_getD (by simp [turnB_len])
  intro j hj
  rw [List.length_take] at hj
  have a : ∀ l : List Int, (l.take n).getD j 0 = l.getD j 0 := fun l => by simp [List.getD, show j < n by omega]
  rw [a, a, turnB_get t h, if_neg (by omega)]
theorem turn_drop {b : List Int} {i n : Nat} {t : Int} (h : i + 4 ≤ b.length) (hn : i + 4 ≤ n) : (turnB b i t 4).drop n = b.drop n := by
  apply ext_getD (by simp [turnB_len])
  intro j _
  have a : ∀ l : List Int, (l.drop n).getD j 0 = l.getD (n + j) 0 := fun l => by simp [List.getD]
  rw [a, a, turnB_get t h, if_neg (by omega)]
/-- If the four are still the same, nothing was turned. -/
theorem turn_same {b : List Int} (hb : okB b) {i : Nat} {t : Int} (h : i + 4 ≤ b.length) (ht : okU t) (e : ∀ j, j < 4 → (turnB b i t 4).getD (i + j) 0 = b.getD (i + j) 0) : t = 0 := by
  have key : ∀ j, j < 4 → tbF t j = 0 := fun j hj => by
    have := e j hj
    rw [turnB_get t h, if_pos (by omega), show i + j - i = j by omega] at this
    exact xor8_same (okB_getD hb _) (tb_isB _ _) this
  exact tb_zero ht (key 0 (by decide)) (key 1 (by decide)) (key 2 (by decide)) (key 3 (by decide))
/-- The register of bytes of which up to 32 bits in a row were turned is another one. -/
theorem turn_crc {b : List Int} (hb : okB b) {i : Nat} {t : Int} (h : i + 4 ≤ b.length) (ht : okU t) (h0 : t ≠ 0) (c : BitVec 32) : crcR c (turnB b i t 4) ≠ crcR c b := by
  intro e
  have hb' := turnB_okB hb i t 4
  have hl := turnB_len b i t 4
  have s1 := four_split (l := b) h
  have s2 := four_split (l := turnB b i t 4) (i := i) (by omega)
  rw [turn_take h (Nat.le_refl _), turn_drop h (Nat.le_refl _)] at s2
  have e1 := congrArg (crcR c) s1
  have e2 := congrArg (crcR c) s2
  rw [crcR_append, crcR_append] at e1 e2
  rw [e1, e2] at e
  have e := crcR_inj e
  have q : ∀ j, isB (b.getD j 0) := fun j => okB_getD hb j
  have q' : ∀ j, isB ((turnB b i t 4).getD j 0) := fun j => okB_getD hb' j
  obtain ⟨⟨a0, a1⟩, a2, a3⟩ := four_inj (q' _) (q' _) (q' _) (q' _) (q _) (q _) (q _) (q _) e
  refine h0 (turn_same hb h ht fun j hj => ?_)
  match j, hj with
  | 0, _ => exact a0
  | 1, _ => exact a1
  | 2, _ => exact a2
  | 3, _ => exact a3

/-! Packets -/
def plcF (k : Nat) : List Int := [0, 1, 2, 3, 4, 8] ++ (List.range k).map fun j => ((12 + j : Nat) : Int)
theorem plcF_succ (k : Nat) : plcF k ++ [((12 + k : Nat) : Int)] = plcF (k + 1) := by
  unfold plcF
  rw [List.range_succ, List.map_append, List.append_assoc]
  rfl
theorem plcF_len (k : Nat) : (plcF k).length = 6 + k := by simp [plcF]; omega
theorem plcF_get {k j : Nat} (h : j < 6 + k) : ∃ m : Nat, (plcF k).getD j 0 = (m : Int) ∧ ((m + 4 ≤ 8 ∨ m = 8) ∨ (12 ≤ m ∧ m < 12 + k)) := by
  by_cases h6 : j < 6
  · match j, h6 with
    | 0, _ => exact ⟨0, rfl, by omega⟩
    | 1, _ => exact ⟨1, rfl, by omega⟩
    | 2, _ => exact ⟨2, rfl, by omega⟩
    | 3, _ => exact ⟨3, rfl, by omega⟩
    | 4, _ => exact ⟨4, rfl, by omega⟩
    | 5, _ => exact ⟨8, rfl, by omega⟩
  · refine ⟨12 + (j - 6), ?_, by omega⟩
    have : j - 6 < k := by omega
    unfold plcF
    simp only [List.getD]
    rw [List.getElem?_append_right (by simp; omega)]
    simp [this]
theorem pkSum_rng (b : List Int) : 0 ≤ pkSum b ∧ pkSum b ≤ 4294967295 := by rw [pkSum_eq]; exact iv_rng _
theorem sum_inj {l m : List Int} (h : sumF l = sumF m) : crcR (~~~ bv 0) l = crcR (~~~ bv 0) m := by
  unfold sumF moreF iv at h
  have h : (~~~ crcR (~~~ bv 0) l) = ~~~ crcR (~~~ bv 0) m := BitVec.eq_of_toNat_eq (by omega)
  have h := congrArg (fun z => ~~~ z) h
  simpa only [BitVec.not_not] using h
theorem pkB_inj {b c : List Int} (h : pkB b = pkB c) : pkSum b = pkSum c := by
  have h1 := pkSum_rng b
  have h2 := pkSum_rng c
  rw [pkB_eq, pkB_eq] at h
  simp only [List.cons.injEq, and_true, show (256 : Int) ^ 0 = 1 from rfl, show (256 : Int) ^ 1 = 256 from rfl, show (256 : Int) ^ 2 = 65536 from rfl, show (256 : Int) ^ 3 = 16777216 from rfl] at h
  omega
/-- A packet of which up to 32 bits in a row were turned is told. -/
theorem turn_get {b : List Int} (hb : okB b) (h1 : b.length ≤ 4096) (h2 : 12 ≤ b.length) (he : pkB b = (b.drop 8).take 4) {i : Nat} {t : Int} (hi : (i + 4 ≤ 8 ∨ i = 8) ∨ (12 ≤ i ∧ i + 4 ≤ b.length)) (ht : okU t) (h0 : t ≠ 0) : getP (turnB b i t 4) = (noPac, 5) := by
  have h : i + 4 ≤ b.length := by omega
  have hl' := turnB_len b i t 4
  refine getP_sum (by omega) (by omega) fun e => ?_
  have g := fun l : List Int => pkSum_eq l
  by_cases h8 : i = 8
  · subst h8
    have e1 : pkSum (turnB b 8 t 4) = pkSum b := by
      rw [g, g, turn_take h (Nat.le_refl _), turn_drop h (Nat.le_refl _)]
    have e2 : pkB (turnB b 8 t 4) = pkB b := by unfold pkB; rw [e1]
    rw [e2, he] at e
    refine h0 (turn_same hb h ht fun j hj => ?_)
    have a : ∀ l : List Int, ((l.drop 8).take 4).getD j 0 = l.getD (8 + j) 0 := fun l => by simp [List.getD, hj]
    rw [← a, ← a, e]
  · have e1 : ((turnB b i t 4).drop 8).take 4 = (b.drop 8).take 4 := by
      apply ext_getD (by simp [turnB_len])
      intro j hj
      have hj : j < 4 := by have := List.length_take_le 4 ((turnB b i t 4).drop 8); omega
      have a : ∀ l : List Int, ((l.drop 8).take 4).getD j 0 = l.getD (8 + j) 0 := fun l => by simp [List.getD, hj]
      rw [a, a, turnB_get t h, if_neg (by omega)]
    rw [e1, ← he] at e
    have e2 := pkB_inj e
    rw [g, g] at e2
    have hz : okB (b.take 8 ++ List.replicate 4 0 ++ b.drop 12) := okB_append (okB_append (okB_take hb _) (fun x hx => by have := List.eq_of_mem_replicate hx; omega)) (okB_drop hb _)
    have hzl : (b.take 8 ++ List.replicate 4 (0 : Int) ++ b.drop 12).length = b.length := by
      simp only [List.length_append, List.length_take, List.length_drop, List.length_replicate]; omega
    have get : ∀ (l : List Int), l.length = b.length → ∀ j, (l.take 8 ++ List.replicate 4 (0 : Int) ++ l.drop 12).getD j 0 = if 8 ≤ j ∧ j < 12 then 0 else l.getD j 0 := by
      intro l hl j
      have hl8 : (l.take 8).length = 8 := by rw [List.length_take]; omega
      have hl12 : (l.take 8 ++ List.replicate 4 (0 : Int)).length = 12 := by rw [List.length_append, hl8, List.length_replicate]
      by_cases j8 : j < 8
      · rw [if_neg (by omega)]
        simp only [List.getD]
        rw [List.getElem?_append_left (by omega), List.getElem?_append_left (by omega), List.getElem?_take, if_pos j8]
      · by_cases j12 : j < 12
        · rw [if_pos (by omega)]
          simp only [List.getD]
          rw [List.getElem?_append_left (by omega), List.getElem?_append_right (by omega), List.getElem?_replicate, hl8, if_pos (by omega)]
          rfl
        · rw [if_neg (by omega)]
          simp only [List.getD]
          rw [List.getElem?_append_right (by omega), hl12, List.getElem?_drop, show 12 + (j - 12) = j by omega]
    have et : (turnB b i t 4).take 8 ++ List.replicate 4 0 ++ (turnB b i t 4).drop 12 = turnB (b.take 8 ++ List.replicate 4 0 ++ b.drop 12) i t 4 := by
      apply ext_getD
      · rw [turnB_len, hzl]
        simp only [List.length_append, List.length_take, List.length_drop, List.length_replicate]; omega
      intro j _
      rw [get _ (by omega), turnB_get t h, turnB_get t (by rw [hzl]; omega), get _ rfl]
      by_cases j1 : i ≤ j ∧ j < i + 4
      · rw [if_pos j1, if_pos j1, if_neg (by omega), if_neg (by omega)]
      · rw [if_neg j1, if_neg j1]
    rw [et] at e2
    exact turn_crc hz (by rw [hzl]; omega) ht h0 _ (sum_inj e2)
end Go.ZM
namespace Go.ZR
open Go.Z Go.ZM Go.Proofs
def putPWC : Ctr := gC 1 false (fun a => ∃ (p : PacR) (A : D), a = [.agg [iO .u16 p.a, iO .u16 p.b, iO .u32 p.tag, .d A]] ∧ okPac p ∧ asCh A p.l) fun a => [bsN (putP (pacOfO (at_ a 0))).1, iO .i64 (putP (pacOfO (at_ a 0))).2]
theorem ok9w : FnIs Tryd.prog 9 putPWC := by
  refine ok9.weak fun a hp => ?_
  obtain ⟨p, A, rfl, h1, ⟨r1, r2⟩⟩ := hp
  refine ⟨[pacO p], ⟨p, rfl, h1⟩, ?_, ?_, rfl⟩
  · exact toL_cons (toO_agg (toL_cons (toO_refl _) (toL_cons (toO_refl _) (toL_cons (toO_refl _) (toL_cons (toO_d r2) (toL_refl _)))))) (toL_refl _)
  · show [bsN (putP (PacR.mk p.a p.b p.tag (chsOf (chsD p.l)))).1, iO .i64 (putP (PacR.mk p.a p.b p.tag (chsOf (chsD p.l)))).2] = [bsN (putP (PacR.mk p.a p.b p.tag (chsOf A))).1, iO .i64 (putP (PacR.mk p.a p.b p.tag (chsOf A))).2]
    rw [r1, chsD, chsOf_chs]
def ownPC : Ctr := rC 1 (fun a => ∃ p, a = [pacO p] ∧ okChs p.l) fun a => [pacN (pacOfO (at_ a 0))]
def ownPA (p : PacR) : LoopAnn where
  γ := Nat
  pre := fun i => i ≤ p.l.length
  μ := fun i => p.l.length - i
  items := fun i => [(4, .c (iO .i64 (i : Int))), (3, .c (.own 28 (chsD (p.l.take i))))]
def trueG (n : Nat) (pre : List O → Prop) : Ctr := gC n false pre fun _ => [bO true]
def ansPC : Ctr := trueG 0 fun a => a = []
def aloneLC : Ctr := trueG 3 fun a => ∃ k t o, a = [iO .u8 k, iO .u32 t, iO .u8 o] ∧ (0 ≤ k ∧ k ≤ 255) ∧ okU t ∧ (0 ≤ o ∧ o ≤ 255)
def getsLC : Ctr := trueG 1 fun a => ∃ b, a = [bsO b] ∧ b.length ≤ 1048576 ∧ okB b
def backLC : Ctr := trueG 2 fun a => ∃ p b, a = [pacO p, bsO b] ∧ okPac p ∧ b.length ≤ 1048576 ∧ okB b
def turnsLC : Ctr := trueG 3 fun a => ∃ p i t, a = [pacO p, iO .u16 i, iO .u32 t] ∧ okPac p ∧ (0 ≤ i ∧ i ≤ 65535) ∧ okU t
def placesAnn (n : Nat) : LoopAnn where
  γ := Nat
  pre := fun i => 12 ≤ i ∧ i ≤ n
  μ := fun i => n - i
  items := fun i => [(10, .c (iO .i64 (i : Int))), (9, .c (.own 3 (.ints .i64 (plcF (i - 12)))))]
def turnAnn (s t : Nat) (n : Int) : LoopF := .fam (List Int × Nat) fun p =>
  { γ := Nat
    pre := fun k => k ≤ 4
    μ := fun k => 4 - k
    items := fun k => [(s, .c (iO .i64 (k : Int))), (t, .c (bsN (turnB p.1 p.2 n k)))] }
def p12 : List (Nat × Ctr) := [(9, putPWC)]
def p13 : List (Nat × Ctr) := [(7, ansPC), (8, aloneC), (9, putPWC)]
def p14 : List (Nat × Ctr) := [(10, getPC), (11, getPRC), (7, ansPC), (12, samePC)]
def p15 : List (Nat × Ctr) := [(13, ownPC), (9, putPWC), (7, ansPC), (10, getPC), (12, samePC)]
end Go.ZR

/- Statements of packets: walked. -/
namespace Go.ZR
open Go.Proofs
open Go.Z Go.ZM Go.RowKit
set_option maxRecDepth 100000
theorem bytes3 : Tryd.prog.types[(3 : Nat)].bytes = 8 := by kernel_rfl
theorem pac_noPac : sameP noPac noPac = true := rfl
theorem sameP_refl (p : PacR) : sameP p p = true := by simp [sameP, sames_refl]
theorem tb_shift' (t : Int) (g : Nat) (hg : g < 4) : IntKind.u8.wrap (t.fdiv (2 ^ min (IntKind.u64.wrap (IntKind.i64.wrap (8 * (g : Int)))).toNat IntKind.u32.bits)) = tbF t g := tb_shift t g hg
theorem nAt_drop {v : List Int} {i k : Nat} (h : i + k ≤ v.length) : nAt v (i : Int) k = valF ((v.drop i).take k) := by
  unfold nAt getF
  rw [part_get (by omega) (by omega) (by omega) (by omega)]
  simp only [Int.toNat_natCast]
theorem nAt_in {v a r : List Int} {n : Int} {k : Nat} (i : Nat) (h : v = a ++ (be n k ++ r)) (hi : a.length = i) : nAt v (i : Int) k = n % 256 ^ k := by
  subst hi
  have hl : v.length = a.length + (k + r.length) := by rw [h, List.length_append, List.length_append, be_len]
  rw [nAt_drop (by omega), h, List.drop_append_of_le_length (Nat.le_refl _), List.drop_of_length_le (Nat.le_refl _), List.nil_append, List.take_append_of_le_length (by rw [be_len]; exact Nat.le_refl _), List.take_of_length_le (by rw [be_len]; exact Nat.le_refl _), val_be]
theorem be_nAt {v : List Int} (hv : okB v) {i k : Nat} (h : i + k ≤ v.length) : be (nAt v (i : Int) k) k = (v.drop i).take k := by
  rw [nAt_drop h]
  have e := be_val (okB_take (okB_drop hv i) k)
  have l : ((v.drop i).take k).length = k := by simp; omega
  rwa [l] at e
theorem pkH_pac {b : List Int} (hb : okB b) (h : 12 ≤ b.length) : pkH (pacOf b) = b.take 8 := by
  have e0 := be_nAt hb (i := 0) (k := 2) (by omega)
  have e1 := be_nAt hb (i := 2) (k := 2) (by omega)
  have e2 := be_nAt hb (i := 4) (k := 4) (by omega)
  have l2 : b.take 4 = b.take 2 ++ (b.drop 2).take 2 := by rw [← List.take_add]
  have l3 : b.take 8 = b.take 4 ++ (b.drop 4).take 4 := by rw [← List.take_add]
  rw [l3, l2]
  unfold pkH pacOf
  simp only
  rw [show be (nAt b 0 2) 2 = _ from e0, show be (nAt b 2 2) 2 = _ from e1, show be (nAt b 4 4) 4 = _ from e2]
  rfl
theorem pkBytes_len (p : PacR) : (pkBytes p).length = 12 + (putB p.l).length := by
  simp only [pkBytes, List.length_append, pkH_len, pkB_len]; omega
theorem pkBytes_take (p : PacR) : (pkBytes p).take 8 = pkH p := by
  unfold pkBytes
  rw [List.take_append_of_le_length (by rw [pkH_len]; exact Nat.le_refl _), List.take_of_length_le (by rw [pkH_len]; exact Nat.le_refl _)]
theorem pkBytes_drop8 (p : PacR) : (pkBytes p).drop 8 = pkB (pkBody p) ++ putB p.l := by
  unfold pkBytes
  rw [List.drop_append_of_le_length (by rw [pkH_len]; exact Nat.le_refl _), List.drop_of_length_le (by rw [pkH_len]; exact Nat.le_refl _), List.nil_append]
theorem pkBytes_drop (p : PacR) : (pkBytes p).drop 12 = putB p.l := by
  rw [show (12 : Nat) = 8 + 4 from rfl, ← List.drop_drop, pkBytes_drop8, List.drop_append_of_le_length (by rw [pkB_len]; exact Nat.le_refl _), List.drop_of_length_le (by rw [pkB_len]; exact Nat.le_refl _), List.nil_append]
theorem pkBody_take (p : PacR) : (pkBody p).take 8 = pkH p := by
  unfold pkBody
  rw [List.append_assoc, List.take_append_of_le_length (by rw [pkH_len]; exact Nat.le_refl _), List.take_of_length_le (by rw [pkH_len]; exact Nat.le_refl _)]
theorem pkBody_drop (p : PacR) : (pkBody p).drop 12 = putB p.l := by
  have h1 : pkBody p = (pkH p ++ [0, 0, 0, 0]) ++ putB p.l := rfl
  rw [h1, List.drop_append_of_le_length (by simp [pkH_len]), List.drop_of_length_le (by simp [pkH_len]), List.nil_append]
theorem pkB_congr {b c : List Int} (h1 : b.take 8 = c.take 8) (h2 : b.drop 12 = c.drop 12) : pkB b = pkB c := by
  unfold pkB; rw [pkSum_eq, pkSum_eq, h1, h2]
theorem pkBytes_sum (p : PacR) : pkB (pkBytes p) = ((pkBytes p).drop 8).take 4 := by
  rw [pkB_congr (c := pkBody p) (by rw [pkBytes_take, pkBody_take]) (by rw [pkBytes_drop, pkBody_drop]), pkBytes_drop8, List.take_append_of_le_length (by rw [pkB_len]; exact Nat.le_refl _), List.take_of_length_le (by rw [pkB_len]; exact Nat.le_refl _)]
theorem pkB_ok (b : List Int) : okB (pkB b) := fun x hx => be_ok _ _ x (List.mem_reverse.1 hx)
theorem pkBytes_ok {p : PacR} (h : okCB p.l) : okB (pkBytes p) := okB_append (okB_append (okB_append (be_ok _ _) (be_ok _ _)) (be_ok _ _)) (okB_append (pkB_ok _) (putB_ok h))
theorem pac_bytes {p : PacR} (ok : okPac p) (h : (putR p.l).2 = 0) : pacOf (pkBytes p) = p := by
  obtain ⟨h1, h2, h3, h4, h5⟩ := ok
  obtain ⟨z1, z2, z3⟩ := putR_zero h
  have a0 := nAt_in (v := pkBytes p) (a := []) (n := p.a) (k := 2) (r := be p.b 2 ++ be p.tag 4 ++ (pkB (pkBody p) ++ putB p.l)) 0 (by simp [pkBytes, pkH]) rfl
  have a1 := nAt_in (v := pkBytes p) (a := be p.a 2) (n := p.b) (k := 2) (r := be p.tag 4 ++ (pkB (pkBody p) ++ putB p.l)) 2 (by simp [pkBytes, pkH]) (by simp [be_len])
  have a2 := nAt_in (v := pkBytes p) (a := be p.a 2 ++ be p.b 2) (n := p.tag) (k := 4) (r := pkB (pkBody p) ++ putB p.l) 4 (by simp [pkBytes, pkH]) (by simp [be_len])
  rw [show (256 : Int) ^ 2 = 65536 from rfl] at a0 a1
  rw [show (256 : Int) ^ 4 = 4294967296 from rfl] at a2
  unfold rg16 at h1 h2
  unfold rg at h3
  unfold pacOf
  rw [show nAt (pkBytes p) 0 2 = _ from a0, show nAt (pkBytes p) 2 2 = _ from a1, show nAt (pkBytes p) 4 4 = _ from a2, pkBytes_drop, get_put z1 z2, Int.emod_eq_of_lt h1.1 (by omega), Int.emod_eq_of_lt h2.1 (by omega), Int.emod_eq_of_lt h3.1 (by omega)]
theorem putP_zero {p : PacR} (h : (putP p).2 = 0) : soundP p = true ∧ (putR p.l).2 = 0 ∧ 12 + (putB p.l).length ≤ 4096 ∧ putP p = (pkBytes p, 0) := by
  cases s : soundP p with
  | false => rw [putP_bad s] at h; cases h
  | true =>
    by_cases e : (putR p.l).2 = 0
    · by_cases g : 4096 < 12 + (putB p.l).length
      · rw [putP_big s e g] at h; cases h
      · exact ⟨rfl, e, by omega, putP_ok s e g⟩
    · rw [putP_err s e] at h; exact absurd h e
/-- What was packed is read. -/
theorem get_pac {p : PacR} (ok : okPac p) (h : (putP p).2 = 0) : getP (putP p).1 = (p, 0) := by
  obtain ⟨s, e, g, q⟩ := putP_zero h
  obtain ⟨z1, z2, z3⟩ := putR_zero e
  rw [q]
  have hl := pkBytes_len p
  rw [getP_ok (by omega) (by omega) (pkBytes_sum p) (by rw [pkBytes_drop, get_put z1 z2]) (by rw [pac_bytes ok e]; exact s), pac_bytes ok e]
theorem getP_zero {b : List Int} (h : (getP b).2 = 0) : b.length ≤ 4096 ∧ 12 ≤ b.length ∧ pkB b = (b.drop 8).take 4 ∧ (getR (b.drop 12)).2 = 0 ∧ soundP (pacOf b) = true ∧ getP b = (pacOf b, 0) := by
  by_cases h1 : 4096 < (b.length : Int)
  · rw [getP_big h1] at h; cases h
  by_cases h2 : (b.length : Int) < 12
  · rw [getP_short h1 h2] at h; cases h
  have g1 : b.length ≤ 4096 := by omega
  have g2 : 12 ≤ b.length := by omega
  by_cases e : pkB b = (b.drop 8).take 4
  · by_cases g : (getR (b.drop 12)).2 = 0
    · cases s : soundP (pacOf b) with
      | false => rw [getP_bad g1 g2 e g s] at h; cases h
      | true => exact ⟨g1, g2, e, g, rfl, getP_ok g1 g2 e g s⟩
    · rw [getP_err g1 g2 e g] at h; exact absurd h g
  · rw [getP_sum g1 g2 e] at h; cases h
theorem getP_no {b : List Int} (h : ¬ (getP b).2 = 0) : (getP b).1 = noPac := by
  by_cases h1 : 4096 < (b.length : Int)
  · rw [getP_big h1]
  by_cases h2 : (b.length : Int) < 12
  · rw [getP_short h1 h2]
  have g1 : b.length ≤ 4096 := by omega
  have g2 : 12 ≤ b.length := by omega
  by_cases e : pkB b = (b.drop 8).take 4
  · by_cases g : (getR (b.drop 12)).2 = 0
    · cases s : soundP (pacOf b) with
      | false => rw [getP_bad g1 g2 e g s]
      | true => rw [getP_ok g1 g2 e g s] at h; exact absurd rfl h
    · rw [getP_err g1 g2 e g]
  · rw [getP_sum g1 g2 e]
/-- What was read is packed. -/
theorem put_pac {b : List Int} (hb : okB b) (h : (getP b).2 = 0) : putP (getP b).1 = (b, 0) := by
  obtain ⟨g1, g2, e, g, s, q⟩ := getP_zero h
  rw [q]
  have r := getR_put (okB_drop hb 12) g
  obtain ⟨z1, z2, z3⟩ := putR_zero (l := (pacOf b).l) (by show (putR (getR (b.drop 12)).1).2 = 0; rw [r])
  have zb : putB (pacOf b).l = b.drop 12 := by
    rw [← z3]; show (putR (getR (b.drop 12)).1).1 = _; rw [r]
  have zl : (b.drop 12).length = b.length - 12 := List.length_drop
  rw [putP_ok s (by show (putR (getR (b.drop 12)).1).2 = 0; rw [r]) (by rw [zb]; omega)]
  have hh := pkH_pac hb g2
  have hs : pkB (pkBody (pacOf b)) = pkB b := pkB_congr (by rw [pkBody_take, hh]) (by rw [pkBody_drop, zb])
  have : pkBytes (pacOf b) = b := by
    unfold pkBytes
    rw [hs, e, zb, hh, show b.drop 12 = (b.drop 8).drop 4 by rw [List.drop_drop], List.take_append_drop, List.take_append_drop]
  rw [this]
theorem getR_okCB {b : List Int} (hb : okB b) : okCB (getR b).1 := by
  by_cases h : (getR b).2 = 0
  · have r := getR_put hb h
    obtain ⟨z1, z2, z3⟩ := putR_zero (l := (getR b).1) (by rw [r])
    rw [r] at z3
    intro c hc
    have hs : ∀ x, x ∈ chB c → 0 ≤ x ∧ x ≤ 255 := fun x hx => hb x (by
      rw [show b = putB (getR b).1 from z3]
      exact List.mem_flatMap.2 ⟨c, hc, hx⟩)
    refine ⟨hs _ (by simp [chB]), hs _ (by simp [chB]), fun x hx => hs x ?_⟩
    simp [chB, padF, hx]
  · rw [getR_err h]; exact fun c hc => by cases hc
theorem okPac_no : okPac noPac := by
  refine ⟨⟨by decide, by decide⟩, ⟨by decide, by decide⟩, ⟨by decide, by decide⟩, ⟨Nat.zero_le _, fun c hc => by cases hc⟩, fun c hc => by cases hc⟩
theorem getP_okPac {b : List Int} (hb : okB b) : okPac (getP b).1 := by
  by_cases h : (getP b).2 = 0
  · obtain ⟨g1, g2, e, g, s, q⟩ := getP_zero h
    rw [q]
    have n1 := nAt_rng hb 0 (k := 2)
    have n2 := nAt_rng hb 2 (k := 2)
    have n3 := nAt_rng hb 4 (k := 4)
    rw [show (256 : Int) ^ 2 = 65536 from rfl] at n1 n2
    rw [show (256 : Int) ^ 4 = 4294967296 from rfl] at n3
    exact ⟨⟨n1.1, by show nAt b 0 2 ≤ _; omega⟩, ⟨n2.1, by show nAt b 2 2 ≤ _; omega⟩, ⟨n3.1, by show nAt b 4 4 ≤ _; omega⟩, getR_ok (okB_drop hb 12), getR_okCB (okB_drop hb 12)⟩
  · rw [getP_no h]; exact okPac_no
theorem asCh_nil : asCh (D.recs 3 0 fun _ _ => D.v undef) [] := ⟨rfl, reads_recs fun _i hi => absurd hi (Nat.not_lt_zero _)⟩
theorem asCh_one (k : Int) : asCh (D.recs 3 1 fun i j => [D.v (Value.int IntKind.u8 k), D.v (Value.int IntKind.u8 0), D.ints IntKind.u8 []].getD (i * 3 + j) (D.v undef)) [⟨k, 0, []⟩] := by
  refine ⟨rfl, reads_recs fun i hi j hj => ?_⟩
  obtain rfl : i = 0 := by simp at hi; omega
  match j, hj with
  | 0, _ => rfl
  | 1, _ => rfl
  | 2, _ => rfl
theorem asCh_two (k o : Int) : asCh (D.recs 3 2 fun i j => [D.v (Value.int IntKind.u8 k), D.v (Value.int IntKind.u8 0), D.ints IntKind.u8 [], D.v (Value.int IntKind.u8 o), D.v (Value.int IntKind.u8 0), D.ints IntKind.u8 []].getD (i * 3 + j) (D.v undef)) [⟨k, 0, []⟩, ⟨o, 0, []⟩] := by
  refine ⟨rfl, reads_recs fun i hi j hj => ?_⟩
  match i, hi with
  | 0, _ =>
    match j, hj with
    | 0, _ => rfl
    | 1, _ => rfl
    | 2, _ => rfl
  | 1, _ =>
    match j, hj with
    | 0, _ => rfl
    | 1, _ => rfl
    | 2, _ => rfl
theorem putP_one (k t : Int) : (putP ⟨1, 2, t, [⟨k, 0, []⟩]⟩).2 = if (decide (k = 1) == decide (t = 0)) = true then 0 else 2 := by
  have s : soundP ⟨1, 2, t, [⟨k, 0, []⟩]⟩ = (decide (k = 1) == decide (t = 0)) := by
    rw [sound_go (by simp)]; simp
  have l : (putB [(⟨k, 0, []⟩ : ChR)]).length = 4 := by simp [putB, chB_len]; rfl
  have e : (putR [(⟨k, 0, []⟩ : ChR)]).2 = 0 := by rw [put_ok (by simp) (by omega)]
  cases h : (decide (k = 1) == decide (t = 0)) with
  | true => rw [putP_ok (by rw [s, h]) e (by rw [l]; omega)]; rfl
  | false => rw [putP_bad (by rw [s, h])]; rfl
theorem putP_two (k o : Int) : (putP ⟨1, 2, 9, [⟨k, 0, []⟩, ⟨o, 0, []⟩]⟩).2 = if (!aloneF k && !aloneF o) = true then 0 else 2 := by
  have s : soundP ⟨1, 2, 9, [⟨k, 0, []⟩, ⟨o, 0, []⟩]⟩ = (!aloneF k && !aloneF o) := by
    rw [sound_go (by simp)]
    by_cases h : k = 1
    · subst h; simp [anyAl, aloneF]
    · simp [anyAl, h]
  have l : (putB [(⟨k, 0, []⟩ : ChR), ⟨o, 0, []⟩]).length = 8 := by simp [putB, chB_len]; rfl
  have e : (putR [(⟨k, 0, []⟩ : ChR), ⟨o, 0, []⟩]).2 = 0 := by rw [put_ok (by simp) (by omega)]
  cases h : (!aloneF k && !aloneF o) with
  | true => rw [putP_ok (by rw [s, h]) e (by rw [l]; omega)]; rfl
  | false => rw [putP_bad (by rw [s, h])]; rfl
theorem r16_1 : rg16 1 := ⟨by decide, by decide⟩
theorem r16_2 : rg16 2 := ⟨by decide, by decide⟩
theorem r0 : (0 : Int) ≤ 0 ∧ (0 : Int) ≤ 255 := ⟨by decide, by decide⟩
theorem okPac_one {k t : Int} (hk : 0 ≤ k ∧ k ≤ 255) (ht : okU t) : okPac ⟨1, 2, t, [⟨k, 0, []⟩]⟩ := by
  refine ⟨r16_1, r16_2, ht, ⟨by simp, fun c hc => ?_⟩, fun c hc => ?_⟩
  · rw [List.mem_singleton.1 hc]; exact Nat.zero_le _
  · rw [List.mem_singleton.1 hc]; exact ⟨hk, r0, fun x hx => by cases hx⟩
theorem okPac_two {k o : Int} (hk : 0 ≤ k ∧ k ≤ 255) (ho : 0 ≤ o ∧ o ≤ 255) : okPac ⟨1, 2, 9, [⟨k, 0, []⟩, ⟨o, 0, []⟩]⟩ := by
  refine ⟨r16_1, r16_2, (show (0 : Int) ≤ 9 ∧ (9 : Int) ≤ 4294967295 by decide), ⟨by simp, fun c hc => ?_⟩, fun c hc => ?_⟩
  · simp only [List.mem_cons, List.not_mem_nil, or_false] at hc
    rcases hc with rfl | rfl <;> exact Nat.zero_le _
  · simp only [List.mem_cons, List.not_mem_nil, or_false] at hc
    rcases hc with rfl | rfl
    · exact ⟨hk, r0, fun x hx => by cases hx⟩
    · exact ⟨ho, r0, fun x hx => by cases hx⟩
noncomputable def code13 : Code := match Tryd.f13.body with | some c => c | none => .skip
set_option maxHeartbeats 4000000 in
theorem vc13 : ∀ (p : PacR), okChs p.l → ∃ (g0 : Nat), g0 ≤ p.l.length ∧ (0 : Int) = (↑g0 : Int) ∧ (List.take g0 p.l).length = (0 : Nat) ∧ (true && true) = true ∧ ∀ (g : Nat), g ≤ p.l.length →
  True ∧ sw (decide ((↑g : Int) < (↑p.l.length : Int))) (((0 : Int) ≤ (↑g : Int) ∧ (↑g : Int) < (↑p.l.length : Int)) ∧ True ∧ ((0 : Nat) + (p.l.getD (↑g : Int).toNat noCh).v.length) * Tryd.prog.types[(5 : Nat)].bytes ≤ (140737488355328 : Nat) ∧
  True ∧ ((List.take g p.l).length + (1 : Nat)) * Tryd.prog.types[(28 : Nat)].bytes ≤ (140737488355328 : Nat) ∧ True ∧ ∃ (g' : Nat), g' ≤ p.l.length ∧ p.l.length - g' < p.l.length - g ∧
  (IntKind.i64.wrap ((↑g : Int) + (1 : Int)) = (↑g' : Int) ∧ ((List.take g p.l).length + (1 : Nat) = (List.take g' p.l).length ∧ ∀ (i : Nat), i < (List.take g p.l).length + (1 : Nat) →
  ∀ (j : Nat), j < (3 : Nat) → (bif i.blt (List.take g p.l).length then chCell (List.take g p.l) i j else [D.v (Value.int IntKind.u8 (p.l.getD (↑g : Int).toNat noCh).t), D.v (Value.int IntKind.u8 (p.l.getD (↑g : Int).toNat noCh).f), D.ints IntKind.u8 ([] ++ (p.l.getD (↑g : Int).toNat noCh).v)].getD ((i - (List.take g p.l).length) * Tryd.prog.types[(28 : Nat)].size + j) (D.v undef)) = chCell (List.take g' p.l) i j) ∧
  (!false && true && true && ((Nat.ble (3 : Nat) (9 : Nat) || false) && true)) = true) ∧ (some (SV.p (2 : Nat) (0 : Nat)) = some (SV.p (2 : Nat) (0 : Nat)) ∧
  some (SV.p (1 : Nat) (0 : Nat)) = some (SV.p (1 : Nat) (0 : Nat)) ∧ True) ∧ some (R.blk (31 : Nat) [SV.c (Value.int IntKind.u16 (0 : Int)), SV.c (Value.int IntKind.u16 (0 : Int)), SV.c (Value.int IntKind.u32 (0 : Int)), SV.nil]) = some (R.blk (31 : Nat) [SV.c (Value.int IntKind.u16 (0 : Int)), SV.c (Value.int IntKind.u16 (0 : Int)), SV.c (Value.int IntKind.u32 (0 : Int)), SV.nil]) ∧
  some (R.blk (31 : Nat) [SV.c (Value.int IntKind.u16 p.a), SV.c (Value.int IntKind.u16 p.b), SV.c (Value.int IntKind.u32 p.tag), SV.a (0 : Nat)]) = some (R.blk (31 : Nat) [SV.c (Value.int IntKind.u16 p.a), SV.c (Value.int IntKind.u16 p.b), SV.c (Value.int IntKind.u32 p.tag), SV.a (0 : Nat)]) ∧
  some (R.ro (D.recs (3 : Nat) p.l.length (chCell p.l))) = some (R.ro (D.recs (3 : Nat) p.l.length (chCell p.l))) ∧ True) (p.a = p.a ∧ p.b = p.b ∧ p.tag = p.tag ∧
  ((List.take g p.l).length = (chsOf (D.recs (3 : Nat) p.l.length (chCell p.l))).length ∧ ∀ (i : Nat), i < (List.take g p.l).length → ∀ (j : Nat), j < (3 : Nat) →
  chCell (List.take g p.l) i j = chCell (chsOf (D.recs (3 : Nat) p.l.length (chCell p.l))) i j) ∧ (!false && true && true) = true) := by
  simp only [↓sw_iff, ↓Bool.and_eq_true, ↓decide_eq_true_eq, ↓decide_eq_false_iff_not, ↓Bool.not_eq_true', true_and, and_true, Bool.or_false, Nat.ble, Int.toNat_natCast, Nat.zero_add, List.nil_append, Nat.mul_one, bytes5, bytes28, size28, chsOf_chs]
  intro p h
  obtain ⟨h1, h2⟩ := h
  refine ⟨0, Nat.zero_le _, rfl, rfl, ?_⟩
  intro g hg
  refine ⟨fun hlt => ?_, fun hge => ?_⟩
  · have hlt : g < p.l.length := by omega
    have hs := h2 _ (getD_mem (d := noCh) hlt)
    unfold sm at hs
    have ht : (p.l.take g).length = g := by rw [List.length_take]; omega
    refine ⟨⟨by omega, by omega⟩, by omega, by omega, g + 1, hlt, by omega, by rw [wrap_i64_id (by omega) (by omega)]; rfl, by rw [take_ch hlt]; simp, ?_⟩
    intro i hi j hj
    rw [take_ch hlt]
    exact app_ch _ _ hi hj
  · have : p.l.take g = p.l := List.take_of_length_le (by omega)
    rw [this]
    exact ⟨rfl, fun _ _ _ _ => rfl⟩
set_option maxRecDepth 100000 in
theorem ok13 : FnIs Tryd.prog 13 ownPC := by
  refine fnIs (C := (ctrs c0)) (by kernel_rfl) c0_ok Tryd.func13 (code := code13) (by kernel_rfl) (by kernel_rfl) ?_
  rintro a ⟨p, rfl, h⟩
  exact ⟨anns [(3, ownPA p)] (dr := [(3, [0])]), kcast (vc13 p h) (by kernel_rfl)⟩

theorem p12_ok : COk Tryd.prog (ctrs p12) := cok_cons ok9w cok_nil

noncomputable def code7 : Code := match Tryd.f7.body with | some c => c | none => .skip
set_option maxHeartbeats 4000000 in
theorem vc7 : (((80 : Nat) = (80 : Nat) ∧ IntKind.u8 = IntKind.u8 ∧ deTab = deTab) ∧ True) ∧ (∃ (p : PacR), ∃ (A : D), [O.agg [O.d (D.v (Value.int IntKind.u16 (1 : Int))), O.d (D.v (Value.int IntKind.u16 (2 : Int))), O.d (D.v (Value.int IntKind.u32 (3 : Int))), O.d (D.recs Tryd.prog.types[(28 : Nat)].size (1 : Nat) fun (i j : Nat) => [D.v (Value.int IntKind.u8 (11 : Int)), D.v (Value.int IntKind.u8 (0 : Int)), D.ints IntKind.u8 []].getD (i * Tryd.prog.types[(28 : Nat)].size + j) (D.v undef))]] = [O.agg [O.d (D.v (Value.int IntKind.u16 p.a)), O.d (D.v (Value.int IntKind.u16 p.b)), O.d (D.v (Value.int IntKind.u32 p.tag)), O.d A]] ∧
  okPac p ∧ asCh A p.l) ∧ True ∧ True ∧ decide ((↑(16 : Nat) : Int) = (16 : Int)) = true ∧ (true && true) = true := by
  simp only [↓Bool.and_eq_true, ↓decide_eq_true_eq, true_and, and_true, size28]
  exact ⟨⟨⟨1, 2, 3, [⟨11, 0, []⟩]⟩, _, rfl, okPac_one (by decide) (by unfold okU; decide), asCh_one 11⟩, rfl⟩
set_option maxRecDepth 100000 in
theorem ok7 : FnIs Tryd.prog 7 ansPC := by
  refine fnIs (C := (ctrs p12)) (by kernel_rfl) p12_ok Tryd.func7 (code := code7) (by kernel_rfl) (by kernel_rfl) ?_
  rintro a rfl
  exact ⟨anns [] [2], kcast (vc7) (by kernel_rfl)⟩

theorem p13_ok : COk Tryd.prog (ctrs p13) := cok_cons ok7 (cok_cons ok8 (cok_cons ok9w cok_nil))
theorem p14_ok : COk Tryd.prog (ctrs p14) := cok_cons ok10 (cok_cons ok11 (cok_cons ok7 (cok_cons ok12w cok_nil)))
theorem p15_ok : COk Tryd.prog (ctrs p15) := cok_cons ok13 (cok_cons ok9w (cok_cons ok7 (cok_cons ok10 (cok_cons ok12w cok_nil))))

noncomputable def code3 : Code := match Tryd.f3.body with | some c => c | none => .skip
set_option maxHeartbeats 4000000 in
theorem vc3 : ∀ (k t o : Int), (0 : Int) ≤ k ∧ k ≤ (255 : Int) → okU t → (0 : Int) ≤ o ∧ o ≤ (255 : Int) → (((80 : Nat) = (80 : Nat) ∧ IntKind.u8 = IntKind.u8 ∧ deTab = deTab) ∧
  True) ∧ ([] : List O) = [] ∧ SV.c (Value.int IntKind.u8 k) = SV.c (Value.int IntKind.u8 k) ∧ ([!!true] = [!!true] ∧ (∃ (n : Int), [O.d (D.v (Value.int IntKind.u8 k))] = [O.d (D.v (Value.int IntKind.u8 n))]) ∧
  SV.c (Value.bool (aloneF k)) = SV.c (Value.bool (aloneF k))) ∧ SV.c (Value.int IntKind.u8 k) = SV.c (Value.int IntKind.u8 k) ∧ ([!!true] = [!!true] ∧ True ∧
  SV.c (Value.bool (decide (k = (1 : Int)))) = SV.c (Value.bool (decide (k = (1 : Int))))) ∧ ([!!true] = [!!true] ∧ SV.c (Value.bool (decide (k = (1 : Int)))) = SV.c (Value.bool (decide (k = (1 : Int))))) ∧
  sw (!decide (k = (1 : Int)) && !!true) (SV.c (Value.int IntKind.u8 k) = SV.c (Value.int IntKind.u8 k)) True ∧ sw (!decide (k = (1 : Int)) && !!true) ([!decide (k = (1 : Int)), !!true] = [!decide (k = (1 : Int)), !!true] ∧
  True ∧ SV.c (Value.bool (decide (k = (2 : Int)))) = SV.c (Value.bool (decide (k = (2 : Int))))) True ∧ ([!!true] = [!!true] ∧ [!decide (k = (1 : Int)), !!true] = [!decide (k = (1 : Int)), !!true] ∧
  SV.c (Value.bool (decide (k = (1 : Int)) || decide (k = (2 : Int)))) = SV.c (Value.bool (decide (k = (1 : Int)) || decide (k = (2 : Int))))) ∧ ([!!true] = [!!true] ∧
  SV.c (Value.bool (decide (k = (1 : Int)) || decide (k = (2 : Int)))) = SV.c (Value.bool (decide (k = (1 : Int)) || decide (k = (2 : Int))))) ∧ sw (!(decide (k = (1 : Int)) || decide (k = (2 : Int))) && !!true) (SV.c (Value.int IntKind.u8 k) = SV.c (Value.int IntKind.u8 k)) True ∧
  sw (!(decide (k = (1 : Int)) || decide (k = (2 : Int))) && !!true) ([!(decide (k = (1 : Int)) || decide (k = (2 : Int))), !!true] = [!(decide (k = (1 : Int)) || decide (k = (2 : Int))), !!true] ∧
  True ∧ SV.c (Value.bool (decide (k = (14 : Int)))) = SV.c (Value.bool (decide (k = (14 : Int))))) True ∧ ([!!true] = [!!true] ∧ [!(decide (k = (1 : Int)) || decide (k = (2 : Int))), !!true] = [!(decide (k = (1 : Int)) || decide (k = (2 : Int))), !!true] ∧
  SV.c (Value.bool (decide (k = (1 : Int)) || decide (k = (2 : Int)) || decide (k = (14 : Int)))) = SV.c (Value.bool (decide (k = (1 : Int)) || decide (k = (2 : Int)) || decide (k = (14 : Int))))) ∧
  ([!!true] = [!!true] ∧ [!!true] = [!!true] ∧ True ∧ SV.c (Value.bool !aloneF k == (decide (k = (1 : Int)) || decide (k = (2 : Int)) || decide (k = (14 : Int)))) = SV.c (Value.bool !aloneF k == (decide (k = (1 : Int)) || decide (k = (2 : Int)) || decide (k = (14 : Int))))) ∧
  [!!true] = [!!true] ∧ sw (!true || !aloneF k == (decide (k = (1 : Int)) || decide (k = (2 : Int)) || decide (k = (14 : Int)))) (false = true ∧ (true && true) = true) ((((80 : Nat) = (80 : Nat) ∧
  IntKind.u8 = IntKind.u8 ∧ deTab = deTab) ∧ True) ∧ (∃ (p : PacR), ∃ (A : D), [O.agg [O.d (D.v (Value.int IntKind.u16 (1 : Int))), O.d (D.v (Value.int IntKind.u16 (2 : Int))), O.d (D.v (Value.int IntKind.u32 t)), O.d (D.recs Tryd.prog.types[(28 : Nat)].size (1 : Nat) fun (i j : Nat) => [D.v (Value.int IntKind.u8 k), D.v (Value.int IntKind.u8 (0 : Int)), D.ints IntKind.u8 []].getD (i * Tryd.prog.types[(28 : Nat)].size + j) (D.v undef))]] = [O.agg [O.d (D.v (Value.int IntKind.u16 p.a)), O.d (D.v (Value.int IntKind.u16 p.b)), O.d (D.v (Value.int IntKind.u32 p.tag)), O.d A]] ∧
  okPac p ∧ asCh A p.l) ∧ True ∧ True ∧ True ∧ True ∧ True ∧ sw (!decide ((putP (PacR.mk (1 : Int) (2 : Int) t (chsOf (D.recs Tryd.prog.types[(28 : Nat)].size (1 : Nat) fun (i j : Nat) => [D.v (Value.int IntKind.u8 k), D.v (Value.int IntKind.u8 (0 : Int)), D.ints IntKind.u8 []].getD (i * Tryd.prog.types[(28 : Nat)].size + j) (D.v undef))))).snd = (0 : Int)) == (decide (k = (1 : Int)) == decide (t = (0 : Int)))) (false = true ∧
  (true && true) = true) (True ∧ sw (!decide ((putP (PacR.mk (1 : Int) (2 : Int) t (chsOf (D.recs Tryd.prog.types[(28 : Nat)].size (1 : Nat) fun (i j : Nat) => [D.v (Value.int IntKind.u8 k), D.v (Value.int IntKind.u8 (0 : Int)), D.ints IntKind.u8 []].getD (i * Tryd.prog.types[(28 : Nat)].size + j) (D.v undef))))).snd = (0 : Int))) (True ∧
  sw (!decide ((putP (PacR.mk (1 : Int) (2 : Int) t (chsOf (D.recs Tryd.prog.types[(28 : Nat)].size (1 : Nat) fun (i j : Nat) => [D.v (Value.int IntKind.u8 k), D.v (Value.int IntKind.u8 (0 : Int)), D.ints IntKind.u8 []].getD (i * Tryd.prog.types[(28 : Nat)].size + j) (D.v undef))))).snd = (2 : Int))) (false = true ∧
  (true && true) = true) ((((80 : Nat) = (80 : Nat) ∧ IntKind.u8 = IntKind.u8 ∧ deTab = deTab) ∧ True) ∧ (∃ (p : PacR), ∃ (A : D), [O.agg [O.d (D.v (Value.int IntKind.u16 (1 : Int))), O.d (D.v (Value.int IntKind.u16 (2 : Int))), O.d (D.v (Value.int IntKind.u32 (9 : Int))), O.d (D.recs Tryd.prog.types[(28 : Nat)].size (2 : Nat) fun (i j : Nat) => [D.v (Value.int IntKind.u8 k), D.v (Value.int IntKind.u8 (0 : Int)), D.ints IntKind.u8 [], D.v (Value.int IntKind.u8 o), D.v (Value.int IntKind.u8 (0 : Int)), D.ints IntKind.u8 []].getD (i * Tryd.prog.types[(28 : Nat)].size + j) (D.v undef))]] = [O.agg [O.d (D.v (Value.int IntKind.u16 p.a)), O.d (D.v (Value.int IntKind.u16 p.b)), O.d (D.v (Value.int IntKind.u32 p.tag)), O.d A]] ∧
  okPac p ∧ asCh A p.l) ∧ True ∧ (∃ (n : Int), [O.d (D.v (Value.int IntKind.u8 k))] = [O.d (D.v (Value.int IntKind.u8 n))]) ∧ sw (!aloneF k) ((∃ (n : Int), [O.d (D.v (Value.int IntKind.u8 o))] = [O.d (D.v (Value.int IntKind.u8 n))]) ∧
  True ∧ (decide ((putP (PacR.mk (1 : Int) (2 : Int) (9 : Int) (chsOf (D.recs Tryd.prog.types[(28 : Nat)].size (2 : Nat) fun (i j : Nat) => [D.v (Value.int IntKind.u8 k), D.v (Value.int IntKind.u8 (0 : Int)), D.ints IntKind.u8 [], D.v (Value.int IntKind.u8 o), D.v (Value.int IntKind.u8 (0 : Int)), D.ints IntKind.u8 []].getD (i * Tryd.prog.types[(28 : Nat)].size + j) (D.v undef))))).snd = (0 : Int)) == !aloneF o) = true ∧
  (true && true) = true) (True ∧ (decide ((putP (PacR.mk (1 : Int) (2 : Int) (9 : Int) (chsOf (D.recs Tryd.prog.types[(28 : Nat)].size (2 : Nat) fun (i j : Nat) => [D.v (Value.int IntKind.u8 k), D.v (Value.int IntKind.u8 (0 : Int)), D.ints IntKind.u8 [], D.v (Value.int IntKind.u8 o), D.v (Value.int IntKind.u8 (0 : Int)), D.ints IntKind.u8 []].getD (i * Tryd.prog.types[(28 : Nat)].size + j) (D.v undef))))).snd = (0 : Int)) == false) = true ∧
  (true && true) = true))) ((((80 : Nat) = (80 : Nat) ∧ IntKind.u8 = IntKind.u8 ∧ deTab = deTab) ∧ True) ∧ (∃ (p : PacR), ∃ (A : D), [O.agg [O.d (D.v (Value.int IntKind.u16 (1 : Int))), O.d (D.v (Value.int IntKind.u16 (2 : Int))), O.d (D.v (Value.int IntKind.u32 (9 : Int))), O.d (D.recs Tryd.prog.types[(28 : Nat)].size (2 : Nat) fun (i j : Nat) => [D.v (Value.int IntKind.u8 k), D.v (Value.int IntKind.u8 (0 : Int)), D.ints IntKind.u8 [], D.v (Value.int IntKind.u8 o), D.v (Value.int IntKind.u8 (0 : Int)), D.ints IntKind.u8 []].getD (i * Tryd.prog.types[(28 : Nat)].size + j) (D.v undef))]] = [O.agg [O.d (D.v (Value.int IntKind.u16 p.a)), O.d (D.v (Value.int IntKind.u16 p.b)), O.d (D.v (Value.int IntKind.u32 p.tag)), O.d A]] ∧
  okPac p ∧ asCh A p.l) ∧ True ∧ (∃ (n : Int), [O.d (D.v (Value.int IntKind.u8 k))] = [O.d (D.v (Value.int IntKind.u8 n))]) ∧ sw (!aloneF k) ((∃ (n : Int), [O.d (D.v (Value.int IntKind.u8 o))] = [O.d (D.v (Value.int IntKind.u8 n))]) ∧
  True ∧ (decide ((putP (PacR.mk (1 : Int) (2 : Int) (9 : Int) (chsOf (D.recs Tryd.prog.types[(28 : Nat)].size (2 : Nat) fun (i j : Nat) => [D.v (Value.int IntKind.u8 k), D.v (Value.int IntKind.u8 (0 : Int)), D.ints IntKind.u8 [], D.v (Value.int IntKind.u8 o), D.v (Value.int IntKind.u8 (0 : Int)), D.ints IntKind.u8 []].getD (i * Tryd.prog.types[(28 : Nat)].size + j) (D.v undef))))).snd = (0 : Int)) == !aloneF o) = true ∧
  (true && true) = true) (True ∧ (decide ((putP (PacR.mk (1 : Int) (2 : Int) (9 : Int) (chsOf (D.recs Tryd.prog.types[(28 : Nat)].size (2 : Nat) fun (i j : Nat) => [D.v (Value.int IntKind.u8 k), D.v (Value.int IntKind.u8 (0 : Int)), D.ints IntKind.u8 [], D.v (Value.int IntKind.u8 o), D.v (Value.int IntKind.u8 (0 : Int)), D.ints IntKind.u8 []].getD (i * Tryd.prog.types[(28 : Nat)].size + j) (D.v undef))))).snd = (0 : Int)) == false) = true ∧
  (true && true) = true)))) := by
  simp only [↓sw_iff, ↓Bool.and_eq_true, ↓Bool.and_eq_false_iff, ↓decide_eq_true_eq, ↓decide_eq_false_iff_not, ↓Bool.not_eq_true', ↓Bool.not_eq_false', true_and, and_true, implies_true, Bool.not_false, Bool.not_true, Bool.false_or, size28, (asCh_one _).1, (asCh_two _ _).1, putP_one, putP_two]
  intro k t o hk ht ho
  refine ⟨⟨k, rfl⟩, fun e => by simp [aloneF] at e, fun _ => ⟨⟨⟨1, 2, t, [⟨k, 0, []⟩]⟩, _, rfl, okPac_one hk ht, asCh_one k⟩, fun e => ?_, fun _ => ⟨fun n0 => ⟨fun n2 => ?_, fun _ =>
    ⟨⟨⟨1, 2, 9, [⟨k, 0, []⟩, ⟨o, 0, []⟩]⟩, _, rfl, okPac_two hk ho, asCh_two k o⟩, ⟨k, rfl⟩, fun a => ⟨⟨o, rfl⟩, by rw [a]; cases aloneF o <;> simp⟩, fun a => by rw [a]; simp⟩⟩, fun _ =>
    ⟨⟨⟨1, 2, 9, [⟨k, 0, []⟩, ⟨o, 0, []⟩]⟩, _, rfl, okPac_two hk ho, asCh_two k o⟩, ⟨k, rfl⟩, fun a => ⟨⟨o, rfl⟩, by rw [a]; cases aloneF o <;> simp⟩, fun a => by rw [a]; simp⟩⟩⟩⟩
  · cases h : (decide (k = 1) == decide (t = 0)) with
    | true => rw [h] at e; simp at e
    | false => rw [h] at e; simp at e
  · cases h : (decide (k = 1) == decide (t = 0)) with
    | true => rw [h] at n0; simp at n0
    | false => rw [h] at n2; simp at n2
set_option maxRecDepth 100000 in
theorem ok3 : FnIs Tryd.prog 3 aloneLC := by
  refine fnIs (C := (ctrs p13)) (by kernel_rfl) p13_ok Tryd.func3 (code := code3) (by kernel_rfl) (by kernel_rfl) ?_
  rintro a ⟨k, t, o, rfl, hk, ht, ho⟩
  exact ⟨anns [] [5, 9], kcast (vc3 k t o hk ht ho) (by kernel_rfl)⟩

noncomputable def code4 : Code := match Tryd.f4.body with | some c => c | none => .skip
set_option maxHeartbeats 4000000 in
theorem vc4 : ∀ (b : List Int), b.length ≤ (1048576 : Nat) → okB b → True ∧ ((0 : Nat) + b.length) * Tryd.prog.types[(5 : Nat)].bytes ≤ (140737488355328 : Nat) ∧ (((80 : Nat) = (80 : Nat) ∧
  IntKind.u8 = IntKind.u8 ∧ deTab = deTab) ∧ True) ∧ (∃ (b_1 : List Int), [O.d (D.ints IntKind.u8 ([] ++ b))] = [O.d (D.ints IntKind.u8 b_1)] ∧ sm b_1.length ∧
  okB b_1) ∧ (∃ (b_1 : List Int), [O.d (D.ints IntKind.u8 b)] = [O.d (D.ints IntKind.u8 b_1)] ∧ sm b_1.length ∧ okB b_1) ∧ (((80 : Nat) = (80 : Nat) ∧ IntKind.u8 = IntKind.u8 ∧
  deTab = deTab) ∧ True) ∧ ([] : List O) = [] ∧ (∃ (p : PacR), ∃ (q : PacR), ∃ (A : D), ∃ (B : D), [O.agg [O.d (D.v (Value.int IntKind.u16 (getP ([] ++ b)).fst.a)), O.d (D.v (Value.int IntKind.u16 (getP ([] ++ b)).fst.b)), O.d (D.v (Value.int IntKind.u32 (getP ([] ++ b)).fst.tag)), O.d (D.recs (3 : Nat) (getP ([] ++ b)).fst.l.length (chCell (getP ([] ++ b)).fst.l))], O.agg [O.d (D.v (Value.int IntKind.u16 (getP b).fst.a)), O.d (D.v (Value.int IntKind.u16 (getP b).fst.b)), O.d (D.v (Value.int IntKind.u32 (getP b).fst.tag)), O.d (D.recs (3 : Nat) (getP b).fst.l.length (chCell (getP b).fst.l))]] = [O.agg [O.d (D.v (Value.int IntKind.u16 p.a)), O.d (D.v (Value.int IntKind.u16 p.b)), O.d (D.v (Value.int IntKind.u32 p.tag)), O.d A], O.agg [O.d (D.v (Value.int IntKind.u16 q.a)), O.d (D.v (Value.int IntKind.u16 q.b)), O.d (D.v (Value.int IntKind.u32 q.tag)), O.d B]] ∧
  okChs p.l ∧ okChs q.l ∧ asCh A p.l ∧ asCh B q.l) ∧ sw (sameP (PacR.mk (getP ([] ++ b)).fst.a (getP ([] ++ b)).fst.b (getP ([] ++ b)).fst.tag (chsOf (D.recs (3 : Nat) (getP ([] ++ b)).fst.l.length (chCell (getP ([] ++ b)).fst.l)))) (PacR.mk (getP b).fst.a (getP b).fst.b (getP b).fst.tag (chsOf (D.recs (3 : Nat) (getP b).fst.l.length (chCell (getP b).fst.l))))) (True ∧
  decide ((getP ([] ++ b)).snd = (getP b).snd) = true ∧ (true && true) = true) (false = true ∧ (true && true) = true) := by
  simp only [↓sw_iff, ↓Bool.and_eq_true, ↓decide_eq_true_eq, true_and, and_true, implies_true, Nat.zero_add, List.nil_append, Nat.mul_one, bytes5, chsOf_chs, pac_eta, sameP_refl]
  intro b h hb
  have hp := (getP_okPac hb).2.2.2.1
  exact ⟨by omega, ⟨b, rfl, by unfold sm; omega, hb⟩, ⟨b, rfl, by unfold sm; omega, hb⟩, ⟨_, _, _, _, rfl, hp, hp, asCh_self _, asCh_self _⟩, fun h => by cases h⟩
set_option maxRecDepth 100000 in
theorem ok4 : FnIs Tryd.prog 4 getsLC := by
  refine fnIs (C := (ctrs p14)) (by kernel_rfl) p14_ok Tryd.func4 (code := code4) (by kernel_rfl) (by kernel_rfl) ?_
  rintro a ⟨b, rfl, h, hb⟩
  exact ⟨anns [] [3], kcast (vc4 b h hb) (by kernel_rfl)⟩

noncomputable def code5 : Code := match Tryd.f5.body with | some c => c | none => .skip
set_option maxHeartbeats 4000000 in
theorem vc5 : ∀ (p : PacR) (b : List Int), okPac p → b.length ≤ (1048576 : Nat) → okB b → (∃ (p_1 : PacR), [O.agg [O.d (D.v (Value.int IntKind.u16 p.a)), O.d (D.v (Value.int IntKind.u16 p.b)), O.d (D.v (Value.int IntKind.u32 p.tag)), O.d (D.recs (3 : Nat) p.l.length (chCell p.l))]] = [O.agg [O.d (D.v (Value.int IntKind.u16 p_1.a)), O.d (D.v (Value.int IntKind.u16 p_1.b)), O.d (D.v (Value.int IntKind.u32 p_1.tag)), O.d (D.recs (3 : Nat) p_1.l.length (chCell p_1.l))]] ∧
  okChs p_1.l) ∧ (((80 : Nat) = (80 : Nat) ∧ IntKind.u8 = IntKind.u8 ∧ deTab = deTab) ∧ True) ∧ (∃ (p_1 : PacR), ∃ (A : D), [O.agg [O.d (D.v (Value.int IntKind.u16 p.a)), O.d (D.v (Value.int IntKind.u16 p.b)), O.d (D.v (Value.int IntKind.u32 p.tag)), O.d (D.recs (3 : Nat) (chsOf (D.recs (3 : Nat) p.l.length (chCell p.l))).length (chCell (chsOf (D.recs (3 : Nat) p.l.length (chCell p.l)))))]] = [O.agg [O.d (D.v (Value.int IntKind.u16 p_1.a)), O.d (D.v (Value.int IntKind.u16 p_1.b)), O.d (D.v (Value.int IntKind.u32 p_1.tag)), O.d A]] ∧
  okPac p_1 ∧ asCh A p_1.l) ∧ (((80 : Nat) = (80 : Nat) ∧ IntKind.u8 = IntKind.u8 ∧ deTab = deTab) ∧ True) ∧ ([] : List O) = [] ∧ True ∧ sw (decide ((putP (PacR.mk p.a p.b p.tag (chsOf (D.recs (3 : Nat) (chsOf (D.recs (3 : Nat) p.l.length (chCell p.l))).length (chCell (chsOf (D.recs (3 : Nat) p.l.length (chCell p.l)))))))).snd = (0 : Int))) ((((80 : Nat) = (80 : Nat) ∧
  IntKind.u8 = IntKind.u8 ∧ deTab = deTab) ∧ True) ∧ (∃ (b_1 : List Int), [O.d (D.ints IntKind.u8 (putP (PacR.mk p.a p.b p.tag (chsOf (D.recs (3 : Nat) (chsOf (D.recs (3 : Nat) p.l.length (chCell p.l))).length (chCell (chsOf (D.recs (3 : Nat) p.l.length (chCell p.l)))))))).fst)] = [O.d (D.ints IntKind.u8 b_1)] ∧
  sm b_1.length ∧ okB b_1) ∧ True ∧ sw (!decide ((getP (putP (PacR.mk p.a p.b p.tag (chsOf (D.recs (3 : Nat) (chsOf (D.recs (3 : Nat) p.l.length (chCell p.l))).length (chCell (chsOf (D.recs (3 : Nat) p.l.length (chCell p.l)))))))).fst).snd = (0 : Int))) (false = true ∧
  (true && true) = true) ((∃ (p_1 : PacR), ∃ (q : PacR), ∃ (A : D), ∃ (B : D), [O.agg [O.d (D.v (Value.int IntKind.u16 p.a)), O.d (D.v (Value.int IntKind.u16 p.b)), O.d (D.v (Value.int IntKind.u32 p.tag)), O.d (D.recs (3 : Nat) p.l.length (chCell p.l))], O.agg [O.d (D.v (Value.int IntKind.u16 (getP (putP (PacR.mk p.a p.b p.tag (chsOf (D.recs (3 : Nat) (chsOf (D.recs (3 : Nat) p.l.length (chCell p.l))).length (chCell (chsOf (D.recs (3 : Nat) p.l.length (chCell p.l)))))))).fst).fst.a)), O.d (D.v (Value.int IntKind.u16 (getP (putP (PacR.mk p.a p.b p.tag (chsOf (D.recs (3 : Nat) (chsOf (D.recs (3 : Nat) p.l.length (chCell p.l))).length (chCell (chsOf (D.recs (3 : Nat) p.l.length (chCell p.l)))))))).fst).fst.b)), O.d (D.v (Value.int IntKind.u32 (getP (putP (PacR.mk p.a p.b p.tag (chsOf (D.recs (3 : Nat) (chsOf (D.recs (3 : Nat) p.l.length (chCell p.l))).length (chCell (chsOf (D.recs (3 : Nat) p.l.length (chCell p.l)))))))).fst).fst.tag)), O.d (D.recs (3 : Nat) (getP (putP (PacR.mk p.a p.b p.tag (chsOf (D.recs (3 : Nat) (chsOf (D.recs (3 : Nat) p.l.length (chCell p.l))).length (chCell (chsOf (D.recs (3 : Nat) p.l.length (chCell p.l)))))))).fst).fst.l.length (chCell (getP (putP (PacR.mk p.a p.b p.tag (chsOf (D.recs (3 : Nat) (chsOf (D.recs (3 : Nat) p.l.length (chCell p.l))).length (chCell (chsOf (D.recs (3 : Nat) p.l.length (chCell p.l)))))))).fst).fst.l))]] = [O.agg [O.d (D.v (Value.int IntKind.u16 p_1.a)), O.d (D.v (Value.int IntKind.u16 p_1.b)), O.d (D.v (Value.int IntKind.u32 p_1.tag)), O.d A], O.agg [O.d (D.v (Value.int IntKind.u16 q.a)), O.d (D.v (Value.int IntKind.u16 q.b)), O.d (D.v (Value.int IntKind.u32 q.tag)), O.d B]] ∧
  okChs p_1.l ∧ okChs q.l ∧ asCh A p_1.l ∧ asCh B q.l) ∧ sw (!sameP (PacR.mk p.a p.b p.tag (chsOf (D.recs (3 : Nat) p.l.length (chCell p.l)))) (PacR.mk (getP (putP (PacR.mk p.a p.b p.tag (chsOf (D.recs (3 : Nat) (chsOf (D.recs (3 : Nat) p.l.length (chCell p.l))).length (chCell (chsOf (D.recs (3 : Nat) p.l.length (chCell p.l)))))))).fst).fst.a (getP (putP (PacR.mk p.a p.b p.tag (chsOf (D.recs (3 : Nat) (chsOf (D.recs (3 : Nat) p.l.length (chCell p.l))).length (chCell (chsOf (D.recs (3 : Nat) p.l.length (chCell p.l)))))))).fst).fst.b (getP (putP (PacR.mk p.a p.b p.tag (chsOf (D.recs (3 : Nat) (chsOf (D.recs (3 : Nat) p.l.length (chCell p.l))).length (chCell (chsOf (D.recs (3 : Nat) p.l.length (chCell p.l)))))))).fst).fst.tag (chsOf (D.recs (3 : Nat) (getP (putP (PacR.mk p.a p.b p.tag (chsOf (D.recs (3 : Nat) (chsOf (D.recs (3 : Nat) p.l.length (chCell p.l))).length (chCell (chsOf (D.recs (3 : Nat) p.l.length (chCell p.l)))))))).fst).fst.l.length (chCell (getP (putP (PacR.mk p.a p.b p.tag (chsOf (D.recs (3 : Nat) (chsOf (D.recs (3 : Nat) p.l.length (chCell p.l))).length (chCell (chsOf (D.recs (3 : Nat) p.l.length (chCell p.l)))))))).fst).fst.l))))) (false = true ∧
  (true && true) = true) (True ∧ ((0 : Nat) + b.length) * Tryd.prog.types[(5 : Nat)].bytes ≤ (140737488355328 : Nat) ∧ (((80 : Nat) = (80 : Nat) ∧ IntKind.u8 = IntKind.u8 ∧
  deTab = deTab) ∧ True) ∧ (∃ (b_1 : List Int), [O.d (D.ints IntKind.u8 ([] ++ b))] = [O.d (D.ints IntKind.u8 b_1)] ∧ sm b_1.length ∧ okB b_1) ∧ True ∧ sw (!decide ((getP ([] ++ b)).snd = (0 : Int))) ((∃ (p_1 : PacR), ∃ (q : PacR), ∃ (A : D), ∃ (B : D), [O.agg [O.d (D.v (Value.int IntKind.u16 (getP ([] ++ b)).fst.a)), O.d (D.v (Value.int IntKind.u16 (getP ([] ++ b)).fst.b)), O.d (D.v (Value.int IntKind.u32 (getP ([] ++ b)).fst.tag)), O.d (D.recs (3 : Nat) (getP ([] ++ b)).fst.l.length (chCell (getP ([] ++ b)).fst.l))], O.agg [O.d (D.v (Value.int IntKind.u16 (0 : Int))), O.d (D.v (Value.int IntKind.u16 (0 : Int))), O.d (D.v (Value.int IntKind.u32 (0 : Int))), O.d (D.recs Tryd.prog.types[(28 : Nat)].size (0 : Nat) fun (_x _x_1 : Nat) => D.v undef)]] = [O.agg [O.d (D.v (Value.int IntKind.u16 p_1.a)), O.d (D.v (Value.int IntKind.u16 p_1.b)), O.d (D.v (Value.int IntKind.u32 p_1.tag)), O.d A], O.agg [O.d (D.v (Value.int IntKind.u16 q.a)), O.d (D.v (Value.int IntKind.u16 q.b)), O.d (D.v (Value.int IntKind.u32 q.tag)), O.d B]] ∧
  okChs p_1.l ∧ okChs q.l ∧ asCh A p_1.l ∧ asCh B q.l) ∧ sameP (PacR.mk (getP ([] ++ b)).fst.a (getP ([] ++ b)).fst.b (getP ([] ++ b)).fst.tag (chsOf (D.recs (3 : Nat) (getP ([] ++ b)).fst.l.length (chCell (getP ([] ++ b)).fst.l)))) (PacR.mk (0 : Int) (0 : Int) (0 : Int) (chsOf (D.recs Tryd.prog.types[(28 : Nat)].size (0 : Nat) fun (_x _x_1 : Nat) => D.v undef))) = true ∧
  (true && true) = true) ((((80 : Nat) = (80 : Nat) ∧ IntKind.u8 = IntKind.u8 ∧ deTab = deTab) ∧ True) ∧ (∃ (p_1 : PacR), ∃ (A : D), [O.agg [O.d (D.v (Value.int IntKind.u16 (getP ([] ++ b)).fst.a)), O.d (D.v (Value.int IntKind.u16 (getP ([] ++ b)).fst.b)), O.d (D.v (Value.int IntKind.u32 (getP ([] ++ b)).fst.tag)), O.d (D.recs (3 : Nat) (getP ([] ++ b)).fst.l.length (chCell (getP ([] ++ b)).fst.l))]] = [O.agg [O.d (D.v (Value.int IntKind.u16 p_1.a)), O.d (D.v (Value.int IntKind.u16 p_1.b)), O.d (D.v (Value.int IntKind.u32 p_1.tag)), O.d A]] ∧
  okPac p_1 ∧ asCh A p_1.l) ∧ True ∧ sw (decide ((putP (PacR.mk (getP ([] ++ b)).fst.a (getP ([] ++ b)).fst.b (getP ([] ++ b)).fst.tag (chsOf (D.recs (3 : Nat) (getP ([] ++ b)).fst.l.length (chCell (getP ([] ++ b)).fst.l))))).snd = (0 : Int))) (True ∧
  decide ((bstr (putP (PacR.mk (getP ([] ++ b)).fst.a (getP ([] ++ b)).fst.b (getP ([] ++ b)).fst.tag (chsOf (D.recs (3 : Nat) (getP ([] ++ b)).fst.l.length (chCell (getP ([] ++ b)).fst.l))))).fst).data.toList = (bstr b).data.toList) = true ∧
  (true && true) = true) (false = true ∧ (true && true) = true))))) (True ∧ ((0 : Nat) + b.length) * Tryd.prog.types[(5 : Nat)].bytes ≤ (140737488355328 : Nat) ∧
  (((80 : Nat) = (80 : Nat) ∧ IntKind.u8 = IntKind.u8 ∧ deTab = deTab) ∧ True) ∧ (∃ (b_1 : List Int), [O.d (D.ints IntKind.u8 ([] ++ b))] = [O.d (D.ints IntKind.u8 b_1)] ∧
  sm b_1.length ∧ okB b_1) ∧ True ∧ sw (!decide ((getP ([] ++ b)).snd = (0 : Int))) ((∃ (p_1 : PacR), ∃ (q : PacR), ∃ (A : D), ∃ (B : D), [O.agg [O.d (D.v (Value.int IntKind.u16 (getP ([] ++ b)).fst.a)), O.d (D.v (Value.int IntKind.u16 (getP ([] ++ b)).fst.b)), O.d (D.v (Value.int IntKind.u32 (getP ([] ++ b)).fst.tag)), O.d (D.recs (3 : Nat) (getP ([] ++ b)).fst.l.length (chCell (getP ([] ++ b)).fst.l))], O.agg [O.d (D.v (Value.int IntKind.u16 (0 : Int))), O.d (D.v (Value.int IntKind.u16 (0 : Int))), O.d (D.v (Value.int IntKind.u32 (0 : Int))), O.d (D.recs Tryd.prog.types[(28 : Nat)].size (0 : Nat) fun (_x _x_1 : Nat) => D.v undef)]] = [O.agg [O.d (D.v (Value.int IntKind.u16 p_1.a)), O.d (D.v (Value.int IntKind.u16 p_1.b)), O.d (D.v (Value.int IntKind.u32 p_1.tag)), O.d A], O.agg [O.d (D.v (Value.int IntKind.u16 q.a)), O.d (D.v (Value.int IntKind.u16 q.b)), O.d (D.v (Value.int IntKind.u32 q.tag)), O.d B]] ∧
  okChs p_1.l ∧ okChs q.l ∧ asCh A p_1.l ∧ asCh B q.l) ∧ sameP (PacR.mk (getP ([] ++ b)).fst.a (getP ([] ++ b)).fst.b (getP ([] ++ b)).fst.tag (chsOf (D.recs (3 : Nat) (getP ([] ++ b)).fst.l.length (chCell (getP ([] ++ b)).fst.l)))) (PacR.mk (0 : Int) (0 : Int) (0 : Int) (chsOf (D.recs Tryd.prog.types[(28 : Nat)].size (0 : Nat) fun (_x _x_1 : Nat) => D.v undef))) = true ∧
  (true && true) = true) ((((80 : Nat) = (80 : Nat) ∧ IntKind.u8 = IntKind.u8 ∧ deTab = deTab) ∧ True) ∧ (∃ (p_1 : PacR), ∃ (A : D), [O.agg [O.d (D.v (Value.int IntKind.u16 (getP ([] ++ b)).fst.a)), O.d (D.v (Value.int IntKind.u16 (getP ([] ++ b)).fst.b)), O.d (D.v (Value.int IntKind.u32 (getP ([] ++ b)).fst.tag)), O.d (D.recs (3 : Nat) (getP ([] ++ b)).fst.l.length (chCell (getP ([] ++ b)).fst.l))]] = [O.agg [O.d (D.v (Value.int IntKind.u16 p_1.a)), O.d (D.v (Value.int IntKind.u16 p_1.b)), O.d (D.v (Value.int IntKind.u32 p_1.tag)), O.d A]] ∧
  okPac p_1 ∧ asCh A p_1.l) ∧ True ∧ sw (decide ((putP (PacR.mk (getP ([] ++ b)).fst.a (getP ([] ++ b)).fst.b (getP ([] ++ b)).fst.tag (chsOf (D.recs (3 : Nat) (getP ([] ++ b)).fst.l.length (chCell (getP ([] ++ b)).fst.l))))).snd = (0 : Int))) (True ∧
  decide ((bstr (putP (PacR.mk (getP ([] ++ b)).fst.a (getP ([] ++ b)).fst.b (getP ([] ++ b)).fst.tag (chsOf (D.recs (3 : Nat) (getP ([] ++ b)).fst.l.length (chCell (getP ([] ++ b)).fst.l))))).fst).data.toList = (bstr b).data.toList) = true ∧
  (true && true) = true) (false = true ∧ (true && true) = true))) := by
  simp only [↓sw_iff, ↓Bool.and_eq_true, ↓decide_eq_true_eq, ↓decide_eq_false_iff_not, ↓Bool.not_eq_true', ↓Bool.not_eq_false', true_and, and_true, Nat.zero_add, List.nil_append, Nat.mul_one, bytes5, size28, chsOf_chs, pac_eta, asCh_nil.1]
  intro p b ok h hb
  have hp := getP_okPac hb
  refine ⟨⟨p, rfl, ok.2.2.2.1⟩, ⟨p, _, rfl, ok, asCh_self _⟩, fun z => ?_, fun _ => ?_⟩
  · rw [get_pac ok z]
    obtain ⟨s, e, g, q⟩ := putP_zero z
    refine ⟨⟨_, rfl, ?_, ?_⟩, fun n => absurd rfl n, fun _ => ⟨⟨p, p, _, _, rfl, ok.2.2.2.1, ok.2.2.2.1, asCh_self _, asCh_self _⟩, fun f => ?_, fun _ => ?_⟩⟩
    · rw [q]; show sm (pkBytes p).length; rw [pkBytes_len]; unfold sm; omega
    · rw [q]; exact pkBytes_ok ok.2.2.2.2
    · rw [sameP_refl] at f; cases f
    exact ⟨by omega, ⟨b, rfl, by unfold sm; omega, hb⟩, fun n => ⟨⟨(getP b).1, noPac, _, _, rfl, hp.2.2.2.1, okPac_no.2.2.2.1, asCh_self _, asCh_nil⟩, by rw [getP_no n]; exact pac_noPac⟩,
      fun z => ⟨⟨(getP b).1, _, rfl, hp, asCh_self _⟩, fun _ => by rw [put_pac hb z], fun n => absurd (by rw [put_pac hb z]) n⟩⟩
  · exact ⟨by omega, ⟨b, rfl, by unfold sm; omega, hb⟩, fun n => ⟨⟨(getP b).1, noPac, _, _, rfl, hp.2.2.2.1, okPac_no.2.2.2.1, asCh_self _, asCh_nil⟩, by rw [getP_no n]; exact pac_noPac⟩,
      fun z => ⟨⟨(getP b).1, _, rfl, hp, asCh_self _⟩, fun _ => by rw [put_pac hb z], fun n => absurd (by rw [put_pac hb z]) n⟩⟩
set_option maxRecDepth 100000 in
theorem ok5 : FnIs Tryd.prog 5 backLC := by
  refine fnIs (C := (ctrs p15)) (by kernel_rfl) p15_ok Tryd.func5 (code := code5) (by kernel_rfl) (by kernel_rfl) ?_
  rintro a ⟨p, b, rfl, ok, h, hb⟩
  exact ⟨anns [] [6, 12], kcast (vc5 p b ok h hb) (by kernel_rfl)⟩

noncomputable def code6 : Code := match Tryd.f6.body with | some c => c | none => .skip
set_option maxHeartbeats 4000000 in
theorem vc6 : ∀ (p : PacR) (i t : Int), okPac p → (0 : Int) ≤ i ∧ i ≤ (65535 : Int) → okU t → (∃ (p_1 : PacR), [O.agg [O.d (D.v (Value.int IntKind.u16 p.a)), O.d (D.v (Value.int IntKind.u16 p.b)), O.d (D.v (Value.int IntKind.u32 p.tag)), O.d (D.recs (3 : Nat) p.l.length (chCell p.l))]] = [O.agg [O.d (D.v (Value.int IntKind.u16 p_1.a)), O.d (D.v (Value.int IntKind.u16 p_1.b)), O.d (D.v (Value.int IntKind.u32 p_1.tag)), O.d (D.recs (3 : Nat) p_1.l.length (chCell p_1.l))]] ∧
  okChs p_1.l) ∧ (((80 : Nat) = (80 : Nat) ∧ IntKind.u8 = IntKind.u8 ∧ deTab = deTab) ∧ True) ∧ (∃ (p_1 : PacR), ∃ (A : D), [O.agg [O.d (D.v (Value.int IntKind.u16 p.a)), O.d (D.v (Value.int IntKind.u16 p.b)), O.d (D.v (Value.int IntKind.u32 p.tag)), O.d (D.recs (3 : Nat) (chsOf (D.recs (3 : Nat) p.l.length (chCell p.l))).length (chCell (chsOf (D.recs (3 : Nat) p.l.length (chCell p.l)))))]] = [O.agg [O.d (D.v (Value.int IntKind.u16 p_1.a)), O.d (D.v (Value.int IntKind.u16 p_1.b)), O.d (D.v (Value.int IntKind.u32 p_1.tag)), O.d A]] ∧
  okPac p_1 ∧ asCh A p_1.l) ∧ (((80 : Nat) = (80 : Nat) ∧ IntKind.u8 = IntKind.u8 ∧ deTab = deTab) ∧ True) ∧ ([] : List O) = [] ∧ True ∧ sw (!decide ((putP (PacR.mk p.a p.b p.tag (chsOf (D.recs (3 : Nat) (chsOf (D.recs (3 : Nat) p.l.length (chCell p.l))).length (chCell (chsOf (D.recs (3 : Nat) p.l.length (chCell p.l)))))))).snd = (0 : Int))) ((((80 : Nat) = (80 : Nat) ∧
  IntKind.u8 = IntKind.u8 ∧ deTab = deTab) ∧ True) ∧ ([] : List O) = [] ∧ true = true ∧ (true && true) = true) (True ∧ sw (decide (t = (0 : Int))) ((((80 : Nat) = (80 : Nat) ∧
  IntKind.u8 = IntKind.u8 ∧ deTab = deTab) ∧ True) ∧ ([] : List O) = [] ∧ true = true ∧ (true && true) = true) (∃ (g0 : Nat), ((12 : Nat) ≤ g0 ∧ g0 ≤ (12 : Nat) + (putB p.l).length - (3 : Nat)) ∧
  (12 : Int) = (↑g0 : Int) ∧ [(0 : Int), (1 : Int), (2 : Int), (3 : Int), (4 : Int), (8 : Int)] = plcF (g0 - (12 : Nat)) ∧ (!false && true && true) = true ∧
  ∀ (g : Nat), (12 : Nat) ≤ g ∧ g ≤ (12 : Nat) + (putB p.l).length - (3 : Nat) → True ∧ True ∧ sw (decide (IntKind.i64.wrap ((↑g : Int) + (4 : Int)) ≤ (↑(putP (PacR.mk p.a p.b p.tag (chsOf (D.recs (3 : Nat) (chsOf (D.recs (3 : Nat) p.l.length (chCell p.l))).length (chCell (chsOf (D.recs (3 : Nat) p.l.length (chCell p.l)))))))).fst.length : Int))) (True ∧
  ((plcF (g - (12 : Nat))).length + (1 : Nat)) * Tryd.prog.types[(3 : Nat)].bytes ≤ (140737488355328 : Nat) ∧ True ∧ ∃ (g' : Nat), ((12 : Nat) ≤ g' ∧ g' ≤ (12 : Nat) + (putB p.l).length - (3 : Nat)) ∧
  (12 : Nat) + (putB p.l).length - (3 : Nat) - g' < (12 : Nat) + (putB p.l).length - (3 : Nat) - g ∧ (IntKind.i64.wrap ((↑g : Int) + (1 : Int)) = (↑g' : Int) ∧
  plcF (g - (12 : Nat)) ++ [(↑g : Int)] = plcF (g' - (12 : Nat)) ∧ (!false && true && true && ((Nat.ble (6 : Nat) (8 : Nat) || (Nat.beq (5 : Nat) (8 : Nat) || false)) && true)) = true) ∧
  (some (SV.a (4 : Nat)) = some (SV.a (4 : Nat)) ∧ some (SV.b false) = some (SV.b false) ∧ some (SV.c (Value.int IntKind.u16 i)) = some (SV.c (Value.int IntKind.u16 i)) ∧
  some (SV.c (Value.int IntKind.u32 t)) = some (SV.c (Value.int IntKind.u32 t)) ∧ True) ∧ some (R.own (5 : Nat) (D.ints IntKind.u8 (putP (PacR.mk p.a p.b p.tag (chsOf (D.recs (3 : Nat) (chsOf (D.recs (3 : Nat) p.l.length (chCell p.l))).length (chCell (chsOf (D.recs (3 : Nat) p.l.length (chCell p.l)))))))).fst)) = some (R.own (5 : Nat) (D.ints IntKind.u8 (putP (PacR.mk p.a p.b p.tag (chsOf (D.recs (3 : Nat) (chsOf (D.recs (3 : Nat) p.l.length (chCell p.l))).length (chCell (chsOf (D.recs (3 : Nat) p.l.length (chCell p.l)))))))).fst)) ∧
  some (R.own (28 : Nat) (D.recs (3 : Nat) (chsOf (D.recs (3 : Nat) p.l.length (chCell p.l))).length (chCell (chsOf (D.recs (3 : Nat) p.l.length (chCell p.l)))))) = some (R.own (28 : Nat) (D.recs (3 : Nat) (chsOf (D.recs (3 : Nat) p.l.length (chCell p.l))).length (chCell (chsOf (D.recs (3 : Nat) p.l.length (chCell p.l)))))) ∧
  some (R.blk (31 : Nat) [SV.c (Value.int IntKind.u16 p.a), SV.c (Value.int IntKind.u16 p.b), SV.c (Value.int IntKind.u32 p.tag), SV.a (1 : Nat)]) = some (R.blk (31 : Nat) [SV.c (Value.int IntKind.u16 p.a), SV.c (Value.int IntKind.u16 p.b), SV.c (Value.int IntKind.u32 p.tag), SV.a (1 : Nat)]) ∧
  some (R.ro (D.recs (3 : Nat) p.l.length (chCell p.l))) = some (R.ro (D.recs (3 : Nat) p.l.length (chCell p.l))) ∧ some (R.gl (0 : Nat) (80 : Nat) IntKind.u8 deTab) = some (R.gl (0 : Nat) (80 : Nat) IntKind.u8 deTab) ∧
  True) ((↑(plcF (g - (12 : Nat))).length : Int) ≠ (0 : Int) ∧ ((0 : Int) ≤ (IntKind.i64.wrap i).tmod (↑(plcF (g - (12 : Nat))).length : Int) ∧ (IntKind.i64.wrap i).tmod (↑(plcF (g - (12 : Nat))).length : Int) < (↑(plcF (g - (12 : Nat))).length : Int)) ∧
  ∃ (p_1 : List Int × Nat), ∃ (g0_1 : Nat), g0_1 ≤ (4 : Nat) ∧ (0 : Int) = (↑g0_1 : Int) ∧ (putP (PacR.mk p.a p.b p.tag (chsOf (D.recs (3 : Nat) (chsOf (D.recs (3 : Nat) p.l.length (chCell p.l))).length (chCell (chsOf (D.recs (3 : Nat) p.l.length (chCell p.l)))))))).fst = turnB p_1.fst p_1.snd t g0_1 ∧
  (!false && true && true) = true ∧ ∀ (g_1 : Nat), g_1 ≤ (4 : Nat) → True ∧ sw (decide ((↑g_1 : Int) < (4 : Int))) (True ∧ True ∧ ((0 : Int) ≤ IntKind.i64.wrap ((plcF (g - (12 : Nat))).getD ((IntKind.i64.wrap i).tmod (↑(plcF (g - (12 : Nat))).length : Int)).toNat (0 : Int) + (↑g_1 : Int)) ∧
  IntKind.i64.wrap ((plcF (g - (12 : Nat))).getD ((IntKind.i64.wrap i).tmod (↑(plcF (g - (12 : Nat))).length : Int)).toNat (0 : Int) + (↑g_1 : Int)) < (↑(turnB p_1.fst p_1.snd t g_1).length : Int)) ∧
  True ∧ (0 : Int) ≤ IntKind.u64.wrap (IntKind.i64.wrap ((8 : Int) * (↑g_1 : Int))) ∧ True ∧ ((0 : Int) ≤ IntKind.i64.wrap ((plcF (g - (12 : Nat))).getD ((IntKind.i64.wrap i).tmod (↑(plcF (g - (12 : Nat))).length : Int)).toNat (0 : Int) + (↑g_1 : Int)) ∧
  IntKind.i64.wrap ((plcF (g - (12 : Nat))).getD ((IntKind.i64.wrap i).tmod (↑(plcF (g - (12 : Nat))).length : Int)).toNat (0 : Int) + (↑g_1 : Int)) < (↑(turnB p_1.fst p_1.snd t g_1).length : Int)) ∧
  IntKind.u8 = IntKind.u8 ∧ True ∧ ∃ (g' : Nat), g' ≤ (4 : Nat) ∧ (4 : Nat) - g' < (4 : Nat) - g_1 ∧ (IntKind.i64.wrap ((↑g_1 : Int) + (1 : Int)) = (↑g' : Int) ∧
  (turnB p_1.fst p_1.snd t g_1).set (IntKind.i64.wrap ((plcF (g - (12 : Nat))).getD ((IntKind.i64.wrap i).tmod (↑(plcF (g - (12 : Nat))).length : Int)).toNat (0 : Int) + (↑g_1 : Int))).toNat (bits BinOp.xor IntKind.u8 ((turnB p_1.fst p_1.snd t g_1).getD (IntKind.i64.wrap ((plcF (g - (12 : Nat))).getD ((IntKind.i64.wrap i).tmod (↑(plcF (g - (12 : Nat))).length : Int)).toNat (0 : Int) + (↑g_1 : Int))).toNat (0 : Int)) (IntKind.u8.wrap (t.fdiv ((2 : Int) ^ min (IntKind.u64.wrap (IntKind.i64.wrap ((8 : Int) * (↑g_1 : Int)))).toNat IntKind.u32.bits)))) = turnB p_1.fst p_1.snd t g' ∧
  (!false && true && true && ((Nat.ble (7 : Nat) (7 : Nat) || (Nat.beq (4 : Nat) (7 : Nat) || false)) && true)) = true) ∧ (some (SV.c (Value.int IntKind.i64 ((plcF (g - (12 : Nat))).getD ((IntKind.i64.wrap i).tmod (↑(plcF (g - (12 : Nat))).length : Int)).toNat (0 : Int)))) = some (SV.c (Value.int IntKind.i64 ((plcF (g - (12 : Nat))).getD ((IntKind.i64.wrap i).tmod (↑(plcF (g - (12 : Nat))).length : Int)).toNat (0 : Int)))) ∧
  some (SV.b false) = some (SV.b false) ∧ some (SV.c (Value.int IntKind.u32 t)) = some (SV.c (Value.int IntKind.u32 t)) ∧ True) ∧ some (R.own (3 : Nat) (D.ints IntKind.i64 (plcF (g - (12 : Nat))))) = some (R.own (3 : Nat) (D.ints IntKind.i64 (plcF (g - (12 : Nat))))) ∧
  some R.dead = some R.dead ∧ some (R.own (28 : Nat) (D.recs (3 : Nat) (chsOf (D.recs (3 : Nat) p.l.length (chCell p.l))).length (chCell (chsOf (D.recs (3 : Nat) p.l.length (chCell p.l)))))) = some (R.own (28 : Nat) (D.recs (3 : Nat) (chsOf (D.recs (3 : Nat) p.l.length (chCell p.l))).length (chCell (chsOf (D.recs (3 : Nat) p.l.length (chCell p.l)))))) ∧
  some (R.blk (31 : Nat) [SV.c (Value.int IntKind.u16 p.a), SV.c (Value.int IntKind.u16 p.b), SV.c (Value.int IntKind.u32 p.tag), SV.a (1 : Nat)]) = some (R.blk (31 : Nat) [SV.c (Value.int IntKind.u16 p.a), SV.c (Value.int IntKind.u16 p.b), SV.c (Value.int IntKind.u32 p.tag), SV.a (1 : Nat)]) ∧
  some (R.ro (D.recs (3 : Nat) p.l.length (chCell p.l))) = some (R.ro (D.recs (3 : Nat) p.l.length (chCell p.l))) ∧ some (R.gl (0 : Nat) (80 : Nat) IntKind.u8 deTab) = some (R.gl (0 : Nat) (80 : Nat) IntKind.u8 deTab) ∧
  True) ((((80 : Nat) = (80 : Nat) ∧ IntKind.u8 = IntKind.u8 ∧ deTab = deTab) ∧ True) ∧ (∃ (b : List Int), [O.d (D.ints IntKind.u8 (turnB p_1.fst p_1.snd t g_1))] = [O.d (D.ints IntKind.u8 b)] ∧
  sm b.length ∧ okB b) ∧ True ∧ sw (decide ((getP (turnB p_1.fst p_1.snd t g_1)).snd = (5 : Int))) ((∃ (p_2 : PacR), ∃ (q : PacR), ∃ (A : D), ∃ (B : D), [O.agg [O.d (D.v (Value.int IntKind.u16 (getP (turnB p_1.fst p_1.snd t g_1)).fst.a)), O.d (D.v (Value.int IntKind.u16 (getP (turnB p_1.fst p_1.snd t g_1)).fst.b)), O.d (D.v (Value.int IntKind.u32 (getP (turnB p_1.fst p_1.snd t g_1)).fst.tag)), O.d (D.recs (3 : Nat) (getP (turnB p_1.fst p_1.snd t g_1)).fst.l.length (chCell (getP (turnB p_1.fst p_1.snd t g_1)).fst.l))], O.agg [O.d (D.v (Value.int IntKind.u16 (0 : Int))), O.d (D.v (Value.int IntKind.u16 (0 : Int))), O.d (D.v (Value.int IntKind.u32 (0 : Int))), O.d (D.recs Tryd.prog.types[(28 : Nat)].size (0 : Nat) fun (_x _x_1 : Nat) => D.v undef)]] = [O.agg [O.d (D.v (Value.int IntKind.u16 p_2.a)), O.d (D.v (Value.int IntKind.u16 p_2.b)), O.d (D.v (Value.int IntKind.u32 p_2.tag)), O.d A], O.agg [O.d (D.v (Value.int IntKind.u16 q.a)), O.d (D.v (Value.int IntKind.u16 q.b)), O.d (D.v (Value.int IntKind.u32 q.tag)), O.d B]] ∧
  okChs p_2.l ∧ okChs q.l ∧ asCh A p_2.l ∧ asCh B q.l) ∧ sameP (PacR.mk (getP (turnB p_1.fst p_1.snd t g_1)).fst.a (getP (turnB p_1.fst p_1.snd t g_1)).fst.b (getP (turnB p_1.fst p_1.snd t g_1)).fst.tag (chsOf (D.recs (3 : Nat) (getP (turnB p_1.fst p_1.snd t g_1)).fst.l.length (chCell (getP (turnB p_1.fst p_1.snd t g_1)).fst.l)))) (PacR.mk (0 : Int) (0 : Int) (0 : Int) (chsOf (D.recs Tryd.prog.types[(28 : Nat)].size (0 : Nat) fun (_x _x_1 : Nat) => D.v undef))) = true ∧
  (true && true) = true) (false = true ∧ (true && true) = true))))) := by
  simp only [↓sw_iff, ↓Bool.and_eq_true, ↓decide_eq_true_eq, ↓decide_eq_false_iff_not, ↓Bool.not_eq_true', ↓Bool.not_eq_false', true_and, and_true, implies_true, Bool.or_false, Nat.ble, Nat.beq, size28, chsOf_chs, pac_eta, asCh_nil.1, bytes3]
  intro p i t ok hi ht
  refine ⟨⟨p, rfl, ok.2.2.2.1⟩, ⟨p, _, rfl, ok, asCh_self _⟩, fun z h0 => ?_⟩
  obtain ⟨s, e, g4, q⟩ := putP_zero z
  have hb := pkBytes_ok ok.2.2.2.2
  have hl := pkBytes_len p
  have hs := pkBytes_sum p
  have hn : 4 ≤ (putB p.l).length := by
    cases hl : p.l with
    | nil => rw [sound_zero (by rw [hl]; simp)] at s; cases s
    | cons c r => rw [putB_cons, List.length_append, chB_len]; omega
  rw [q]
  simp only
  generalize hw : pkBytes p = b at *
  rw [hl]
  refine ⟨12, ⟨by omega, by omega⟩, rfl, rfl, fun g hg => ⟨fun hlt => ?_, fun hge => ?_⟩⟩
  · rw [wrap_i64_id (by omega) (by omega)] at hlt
    refine ⟨by rw [plcF_len]; omega, g + 1, ⟨by omega, by omega⟩, by omega, by rw [wrap_i64_id (by omega) (by omega)]; omega, ?_⟩
    have := plcF_succ (g - 12)
    rw [show 12 + (g - 12) = g by omega] at this
    rw [this, show g + 1 - 12 = g - 12 + 1 by omega]
  · rw [wrap_i64_id (by omega) (by omega)] at hge
    rw [plcF_len]
    have wi : (IntKind.i64.wrap i).tmod ((6 + (g - 12) : Nat) : Int) = (((i % ((6 + (g - 12) : Nat) : Int)).toNat : Nat) : Int) := by
      rw [wrap_i64_id (by omega) (by omega), Int.tmod_eq_emod_of_nonneg hi.1]
      have := Int.emod_nonneg i (show ((6 + (g - 12) : Nat) : Int) ≠ 0 by omega)
      omega
    have hj : (i % ((6 + (g - 12) : Nat) : Int)).toNat < 6 + (g - 12) := by
      have h1 := Int.emod_nonneg i (show ((6 + (g - 12) : Nat) : Int) ≠ 0 by omega)
      have h2 := Int.emod_lt_of_pos i (show (0 : Int) < ((6 + (g - 12) : Nat) : Int) by omega)
      omega
    rw [wi]
    obtain ⟨m, hm, hp⟩ := plcF_get hj
    simp only [Int.toNat_natCast]
    rw [hm]
    refine ⟨by omega, ⟨by omega, by omega⟩, (b, m), 0, by omega, rfl, rfl, fun k hk => ⟨fun h => ?_, fun h => ?_⟩⟩
    · have hl' := turnB_len b m t k
      have e : IntKind.i64.wrap ((m : Int) + k) = ((m + k : Nat) : Int) := by rw [wrap_i64_id (by omega) (by omega)]; omega
      simp only
      rw [e, tb_shift' t k (by omega), hl']
      exact ⟨⟨by omega, by omega⟩, by rw [IntKind.wrap_u64]; omega, ⟨by omega, by omega⟩, k + 1, by omega, by omega, by rw [wrap_i64_id (by omega) (by omega)]; omega, by rw [Int.toNat_natCast]; rfl⟩
    · have : k = 4 := by omega
      subst this
      simp only
      rw [turn_get hb (by omega) (by omega) hs (by omega) ht h0]
      exact ⟨⟨_, rfl, by rw [turnB_len]; unfold sm; omega, turnB_okB hb _ _ _⟩, fun _ => ⟨⟨noPac, noPac, _, _, rfl, okPac_no.2.2.2.1, okPac_no.2.2.2.1, asCh_self _, asCh_nil⟩, pac_noPac⟩, fun h => absurd rfl h⟩
set_option maxRecDepth 100000 in
theorem ok6 : FnIs Tryd.prog 6 turnsLC := by
  refine fnIs (C := (ctrs p15)) (by kernel_rfl) p15_ok Tryd.func6 (code := code6) (by kernel_rfl) (by kernel_rfl) ?_
  rintro a ⟨p, i, t, rfl, ok, hi, ht⟩
  exact ⟨anns [(6, placesAnn (12 + (putB p.l).length - 3)), (11, turnAnn 12 7 t)] [2, 15] (dr := [(6, [0, 3, 8, 15, 16, 17, 18, 19, 20, 21, 22, 23, 24, 25, 26, 27, 28, 29, 30, 31, 32]), (11, [0, 1, 3, 8, 9, 10, 15, 16, 17, 18, 19, 20, 21, 22, 23, 24, 25, 26, 27, 28, 29, 30, 31, 32, 33, 34, 35, 36, 37, 38, 39, 40, 41, 42, 43, 44, 45, 46, 47, 48, 49, 50, 51])]), kcast (vc6 p i t ok hi ht) (by kernel_rfl)⟩

end Go.ZR

/- Arguments of any depth (numbers, tests, texts, slices, structs), opened as data; how long they are at most. -/
namespace Go.Z
open Go.ChangeShapes Go.WideShapes Go.ChangeAt Go.RowKit
open Go.Proofs.YtonfaeenoifomaaDoor.Rows (uptoBulk uptoBulkAll)

/-- A cell's shape. -/
inductive Sh where
  | int (k : IntKind)
  | bool
  | str
  | ints (k : IntKind)
  | recs (l : List Sh)

def flatFs (f : Nat → Option (List Sh)) (co : Nat → Nat) : List Field → Nat → Option (List Sh)
  | [], _ => some []
  | x :: l, o => cond (Nat.beq x.offset o) (match f x.type with
    | some a => cond (Nat.beq (co x.type) a.length) (match flatFs f co l (o + a.length) with
      | some b => some (a ++ b)
      | none => none) none
    | none => none) none

/-- A type's cells. -/
def flat (P : Program) : Nat → Nat → Option (List Sh)
  | 0, _ => none
  | n + 1, t => match P.underlying t with
    | some (.int k) => some [.int k]
    | some .bool => some [.bool]
    | some .string => some [.str]
    | some (.slice e) => match P.underlying e with
      | some (.int k) => cond (Nat.beq (P.cellsOf e) 1) (some [.ints k]) none
      | _ => match flat P n e with
        | some (s :: l) => cond (Nat.beq (P.cellsOf e) (l.length + 1)) (some [.recs (s :: l)]) none
        | _ => none
    | some (.struct fs) => match flatFs (flat P n) P.cellsOf fs.toList 0 with
      | some l => cond (Nat.beq (P.cellsOf t) l.length) (some l) none
      | none => none
    | _ => none

mutual
/-- Data of a shape, nothing longer than N. -/
def fits (N : Nat) : Sh → D → Prop
  | .int k, d => ∃ n, d = .v (.int k n) ∧ k.min ≤ n ∧ n ≤ k.max
  | .bool, d => ∃ b, d = .v (.bool b)
  | .str, d => ∃ s : ByteArray, d = .v (.string s) ∧ s.size ≤ N
  | .ints k, d => ∃ xs, d = .ints k xs ∧ (∀ x, x ∈ xs → k.min ≤ x ∧ x ≤ k.max) ∧ xs.length ≤ N
  | .recs l, d => ∃ n f, d = .recs l.length n f ∧ n ≤ N ∧ ∀ i, i < n → fitsL N l (f i)
def fitsL (N : Nat) : List Sh → (Nat → D) → Prop
  | [], _ => True
  | s :: l, g => fits N s (g 0) ∧ fitsL N l fun j => g (j + 1)
end

theorem DL.append {X : Nat → Prop} {w : World} : ∀ {a b : List D} {u v : List Value}, DL.holds X w a u → DL.holds X w b v → DL.holds X w (a ++ b) (u ++ v)
  | [], _, [], _, _, hb => hb
  | [], _, _ :: _, _, ha, _ => ha.elim
  | _ :: _, _, [], _, ha, _ => ha.elim
  | _ :: _, _, _ :: _, _, ha, hb => ⟨ha.1, DL.append ha.2 hb⟩
theorem fitsL_congr {N : Nat} : ∀ {l : List Sh} {f g : Nat → D}, (∀ j, j < l.length → f j = g j) → fitsL N l f → fitsL N l g
  | [], _, _, _, _ => by simp [fitsL]
  | s :: l, f, g, h, hf => by
    simp only [fitsL] at hf ⊢
    exact ⟨by rw [← h 0 (by simp)]; exact hf.1, fitsL_congr (fun j hj => h (j + 1) (by simpa using hj)) hf.2⟩
theorem fitsL_append {N : Nat} : ∀ {l m : List Sh} {a b : List D}, a.length = l.length → fitsL N l (fun j => a.getD j (.v undef)) → fitsL N m (fun j => b.getD j (.v undef)) → fitsL N (l ++ m) (fun j => (a ++ b).getD j (.v undef))
  | [], m, [], b, _, _, hb => by simpa using hb
  | [], _, _ :: _, _, h, _, _ => by simp at h
  | _ :: _, _, [], _, h, _, _ => by simp at h
  | s :: l, m, x :: a, b, h, ha, hb => by
    simp only [List.cons_append, fitsL, List.getD_cons_zero, List.getD_cons_succ] at ha ⊢
    exact ⟨ha.1, fitsL_append (by simpa using h) ha.2 hb⟩

section
variable {H : Type} {enc : TypeId × Value → H} {P : Program} {w : World} {base : Nat} {held : Bool}

theorem bulk_pos (d : DataW H) : 1 ≤ uptoBulk d := by
  cases d with
  | lit l => cases l <;> simp [uptoBulk]
  | _ => simp [uptoBulk]
theorem bulk_mem : ∀ {l : List (DataW H)} {d : DataW H}, d ∈ l → uptoBulk d ≤ uptoBulkAll l
  | [], _, h => by cases h
  | x :: l, d, h => by
    simp only [uptoBulkAll]
    rcases List.mem_cons.1 h with rfl | h
    · omega
    · have := bulk_mem h; omega
theorem bulk_len : ∀ (l : List (DataW H)), l.length ≤ uptoBulkAll l
  | [] => by simp
  | x :: l => by
    have := bulk_len l
    have := bulk_pos x
    simp only [uptoBulkAll, List.length_cons]; omega

/-- It is no longer than N: as a whole; or no slice is. -/
def Bnd (N : Nat) (d : DataW H) : Prop := uptoBulk d ≤ N ∨ maxLen ≤ N

theorem ints_trod {t e : TypeId} {k : IntKind} {fuel : Nat} {cs : List Value} {x : DataW H × List MemPlace} (ht : P.underlying t = some (.slice e)) (he : P.underlying e = some (.int k)) (hc : P.cellsOf e = 1)
    (hf : DataW.trod enc P w base (fun _ => true) held fuel t cs = some x) {N : Nat} (hb : Bnd N x.1) :
    ∃ v xs, cs = [v] ∧ (D.ints k xs).holds (fun _ => True) w v ∧ (∀ y, y ∈ xs → k.min ≤ y ∧ y ≤ k.max) ∧ xs.length ≤ N := by
  rcases open_ints ht he hc hf with ⟨rfl, _⟩ | ⟨a, len, cap, zs, rfl, _, hl, hm, hz, hx, hcell, hwz⟩
  · exact ⟨_, [], rfl, D.holds_ints.2 ⟨nilLoc, rfl, .inl rfl, fun h => absurd rfl h, rfl, Nat.le_refl _, fun i z hi => by simp at hi⟩, by simp, by simp⟩
  · simp at hz
    have hlen : (zs.take len).length = len := by simp; omega
    have hxs : ∀ y, y ∈ zs.take len → k.min ≤ y ∧ y ≤ k.max := fun y hy => by
      have := hwz y (List.mem_of_mem_take hy)
      simpa [Lit.wf] using this
    have hN : (zs.take len).length ≤ N := by
      rcases hb with hb | hb
      · rw [hx] at hb
        simp only [uptoBulk] at hb
        have := bulk_len (lits (H := H) k (zs.take len))
        have h2 : (lits (H := H) k (zs.take len)).length = (zs.take len).length := by simp [lits]
        omega
      · omega
    by_cases hcap : cap = 0
    · refine ⟨_, zs.take len, rfl, D.holds_ints.2 ⟨⟨some a, len, cap⟩, rfl, .inl hcap, fun hne => absurd hne (by show ¬ len ≠ 0; omega), hlen.symm, hl, fun i z hi => ?_⟩, hxs, hN⟩
      have := (List.getElem?_eq_some_iff.1 hi).1
      omega
    · have h0 := hcell 0 (by omega)
      have ha := spot_none h0
      have ha' : a = ⟨a.block, a.off, none⟩ := by simpa [Addr.add] using ha
      generalize hbb : a.block = b at *
      generalize ho : a.off = o at *
      subst ha'
      refine ⟨_, zs.take len, rfl, D.holds_ints.2 ⟨⟨some ⟨b, o, none⟩, len, cap⟩, rfl, .inr rfl, fun hne => ⟨trivial, lt_of_cell (b := b) (o := o) (by rw [add_spot] at h0; exact h0)⟩, hlen.symm, hl, fun i z hi => ?_⟩, hxs, hN⟩
      have hi1 := (List.getElem?_eq_some_iff.1 hi).1
      have hc := hcell i (by omega)
      rw [add_spot] at hc
      have : zs.getD i 0 = z := by
        rw [List.getElem?_take] at hi
        split at hi
        · simp [List.getD_eq_getElem?_getD, hi]
        · cases hi
      rw [this] at hc
      exact hc

/-- What an opening yields. -/
def Opens (w : World) (N : Nat) (shs : List Sh) (cs : List Value) : Prop :=
  ∃ ds : List D, ds.length = shs.length ∧ fitsL N shs (fun j => ds.getD j (.v undef)) ∧ DL.holds (fun _ => True) w ds cs

theorem flds_open {fuel : Nat} {f : Nat → Option (List Sh)} {N : Nat} {cs : List Value}
    (ih : ∀ t c (x : DataW H × List MemPlace) shs, DataW.trod enc P w base (fun _ => true) held fuel t c = some x → f t = some shs → Bnd N x.1 → Opens w N shs c) :
    ∀ (l : List Field) (o : Nat) (shs : List Sh) (xs : List (DataW H × List MemPlace)), flatFs f P.cellsOf l o = some shs → xs.length = l.length →
      (∀ (i : Nat) (fl : Field), l[i]? = some fl → DataW.trod enc P w base (fun _ => true) held fuel fl.type ((cs.drop fl.offset).take (P.cellsOf fl.type)) = xs[i]?) → (∀ x, x ∈ xs → Bnd N x.1) →
      Opens w N shs ((cs.drop o).take shs.length)
  | [], o, shs, xs, hf, _, _, _ => by
    simp [flatFs] at hf; subst hf
    exact ⟨[], rfl, by simp [fitsL], by simp; trivial⟩
  | fl :: l, o, shs, [], _, hl, _, _ => by simp at hl
  | fl :: l, o, shs, x :: xs, hf, hl, hx, hb => by
    unfold flatFs at hf
    cases ho : Nat.beq fl.offset o with
    | false => rw [ho] at hf; cases hf
    | true =>
      rw [ho] at hf
      simp only [_root_.cond_true] at hf
      split at hf <;> try (cases hf; done)
      rename_i a ha
      cases hc : Nat.beq (P.cellsOf fl.type) a.length with
      | false => rw [hc] at hf; cases hf
      | true =>
        rw [hc] at hf
        simp only [_root_.cond_true] at hf
        split at hf <;> cases hf
        rename_i b hb'
        have ho := Nat.eq_of_beq_eq_true ho
        have hc := Nat.eq_of_beq_eq_true hc
        have h0 := hx 0 fl rfl
        rw [ho, hc] at h0
        obtain ⟨d1, a1, a2, a3⟩ := ih _ _ _ _ h0 ha (hb x (by simp))
        obtain ⟨d2, b1, b2, b3⟩ := flds_open ih l (o + a.length) b xs hb' (by simpa using hl) (fun i g hg => hx (i + 1) g (by simpa using hg)) (fun y hy => hb y (by simp [hy]))
        refine ⟨d1 ++ d2, by simp [a1, b1], fitsL_append a1 a2 b2, ?_⟩
        rw [List.length_append, List.take_add, List.drop_drop]
        exact DL.append a3 b3

theorem deep : ∀ (m : Nat) (t : TypeId) (fuel : Nat) (cs : List Value) (x : DataW H × List MemPlace) (shs : List Sh) (N : Nat),
    DataW.trod enc P w base (fun _ => true) held fuel t cs = some x → flat P m t = some shs → Bnd N x.1 → Opens w N shs cs
  | 0, _, _, _, _, _, _, _, hs, _ => by simp [flat] at hs
  | m + 1, t, fuel, cs, x, shs, N, hf, hs, hb => by
    unfold flat at hs
    split at hs
    · rename_i k ht
      cases hs
      obtain ⟨n, rfl, rfl, hw⟩ := DataW.trod_int ht hf
      exact ⟨[.v (.int k n)], rfl, by simp only [fitsL, fits, and_true]; exact ⟨n, rfl, by simpa [Lit.wf] using hw⟩, ⟨rfl, rfl⟩, trivial⟩
    · rename_i ht
      cases hs
      obtain ⟨b, rfl, rfl⟩ := DataW.trod_bool ht hf
      exact ⟨[.v (.bool b)], rfl, by simp only [fitsL, fits, and_true]; exact ⟨b, rfl⟩, ⟨rfl, rfl⟩, trivial⟩
    · rename_i ht
      cases hs
      obtain ⟨s, rfl, rfl, hm⟩ := DataW.trod_string ht hf
      refine ⟨[.v (.string s)], rfl, ?_, ⟨rfl, rfl⟩, trivial⟩
      simp only [fitsL, fits, and_true]
      refine ⟨s, rfl, ?_⟩
      rcases hb with hb | hb
      · simp only [uptoBulk] at hb
        have : s.data.toList.length = s.size := Array.length_toList
        omega
      · omega
    · rename_i e ht
      split at hs
      · rename_i k he
        cases hc : Nat.beq (P.cellsOf e) 1 with
        | false => rw [hc] at hs; cases hs
        | true =>
          rw [hc] at hs
          cases hs
          obtain ⟨v, xs, rfl, h1, h2, h3⟩ := ints_trod ht he (Nat.eq_of_beq_eq_true hc) hf hb
          exact ⟨[.ints k xs], rfl, by simp only [fitsL, fits, and_true]; exact ⟨xs, rfl, h2, h3⟩, h1, trivial⟩
      · split at hs
        · rename_i s l hfl
          cases hc : Nat.beq (P.cellsOf e) (l.length + 1) with
          | false => rw [hc] at hs; cases hs
          | true =>
            rw [hc] at hs
            cases hs
            have hc := Nat.eq_of_beq_eq_true hc
            rcases DataW.trod_slice ht hf with ⟨rfl, rfl⟩ | ⟨a, len, cap, elems, rest, n, rfl, rfl, rfl, hbs, hl, hm, hlen, hel, hsp, -⟩
            · refine ⟨[.recs (l.length + 1) 0 fun _ _ => .v undef], rfl, ?_, D.holds_recs.2 ⟨nilLoc, rfl, .inl rfl, fun h => absurd rfl h, rfl, Nat.le_refl _, fun i hi => by omega⟩, trivial⟩
              simp only [fitsL, fits, and_true]
              exact ⟨0, fun _ _ => .v undef, rfl, Nat.zero_le _, fun i hi => by omega⟩
            · have hN : len ≤ N := by
                rcases hb with hb | hb
                · simp only [uptoBulk] at hb
                  have := bulk_len (elems.map (·.1))
                  simp at this
                  omega
                · omega
              have each : ∀ i, i < len → ∃ c, w.cells? base (a.add (i * P.cellsOf e)) (P.cellsOf e) = some c ∧ Opens w N (s :: l) c := fun i hi => by
                have h1 := hel i hi
                have hy : elems[i]? = some elems[i] := List.getElem?_eq_getElem (by omega)
                rw [hy, Option.bind_eq_some_iff] at h1
                obtain ⟨c, h1, h2⟩ := h1
                refine ⟨c, h1, deep m e n c _ _ N h2 hfl ?_⟩
                rcases hb with hb | hb
                · left
                  simp only [uptoBulk] at hb
                  have : uptoBulk (elems[i]).1 ≤ uptoBulkAll (elems.map (·.1)) := bulk_mem (List.mem_map_of_mem (List.getElem_mem _))
                  omega
                · exact .inr hb
              have each' : ∀ i, ∃ ds : List D, i < len → fitsL N (s :: l) (fun j => ds.getD j (.v undef)) ∧ ∃ c, w.cells? base (a.add (i * P.cellsOf e)) (P.cellsOf e) = some c ∧ DL.holds (fun _ => True) w ds c ∧ ds.length = l.length + 1 := fun i => by
                by_cases hi : i < len
                · obtain ⟨c, h1, ds, h2, h3, h4⟩ := each i hi
                  exact ⟨ds, fun _ => ⟨h3, c, h1, h4, h2⟩⟩
                · exact ⟨[], fun h => absurd h hi⟩
              have hF' := fun i => Classical.choose_spec (each' i)
              generalize hFF : (fun i => Classical.choose (each' i)) = F
              have hF : ∀ i, i < len → fitsL N (s :: l) (fun j => (F i).getD j (.v undef)) ∧ ∃ c, w.cells? base (a.add (i * P.cellsOf e)) (P.cellsOf e) = some c ∧ DL.holds (fun _ => True) w (F i) c ∧ (F i).length = l.length + 1 := fun i => by rw [← hFF]; exact hF' i
              clear hF' hFF
              have first : cap ≠ 0 → ∃ c, w.cells? base (a.add (0 * P.cellsOf e)) (P.cellsOf e) = some c := fun hne => by
                by_cases h0 : len = 0
                · obtain ⟨r1, r2⟩ := hsp rfl
                  have h1 := r2 0 (by omega)
                  have hy : rest[0]? = some rest[0] := List.getElem?_eq_getElem (by omega)
                  rw [hy, Option.bind_eq_some_iff] at h1
                  obtain ⟨c, h1, _⟩ := h1
                  exact ⟨c, by rw [show 0 * P.cellsOf e = (len + 0) * P.cellsOf e by rw [h0]]; exact h1⟩
                · obtain ⟨_, c, h1, _⟩ := hF 0 (by omega)
                  exact ⟨c, h1⟩
              have spot : cap ≠ 0 → a = ⟨a.block, a.off, none⟩ ∧ a.block < w.heap.size := fun hne => by
                obtain ⟨c, h1⟩ := first hne
                obtain ⟨_, h4, h5⟩ := World.cells?_some h1
                have h6 := h5 0 (by omega)
                have hc0 : c[0]? = some c[0] := List.getElem?_eq_getElem (by omega)
                rw [hc0, Nat.zero_mul] at h6
                have h7 : w.cell? a = some c[0] := by simpa [Addr.add] using h6
                refine ⟨spot_none h7, ?_⟩
                rw [spot_none h7] at h7
                exact lt_of_cell h7
              refine ⟨[.recs (l.length + 1) len fun i j => (F i).getD j (.v undef)], rfl, ?_, ?_, trivial⟩
              · simp only [fitsL, fits, and_true]
                exact ⟨len, _, rfl, hN, fun i hi => by have := (hF i hi).1; simpa only [fitsL] using this⟩
              · by_cases h0 : cap = 0
                · exact D.holds_recs.2 ⟨⟨some a, len, cap⟩, rfl, .inl h0, fun h => absurd h (by show ¬ len ≠ 0; omega), rfl, hl, fun i hi => by omega⟩
                · obtain ⟨hs1, hs2⟩ := spot h0
                  generalize hbb : a.block = b at *
                  generalize hoo : a.off = o at *
                  subst hs1
                  refine D.holds_recs.2 ⟨⟨some ⟨b, o, none⟩, len, cap⟩, rfl, .inr rfl, fun _ => ⟨trivial, hs2⟩, rfl, hl, fun i hi j hj => ?_⟩
                  obtain ⟨_, c, h1, h2, h3⟩ := hF i hi
                  obtain ⟨c', e1, e2⟩ := DL.getD h2 j (by omega)
                  obtain ⟨_, h4, h5⟩ := World.cells?_some h1
                  refine ⟨c', ?_, e2⟩
                  have := h5 j (by omega)
                  rw [add_spot, add_spot, e1, hc] at this
                  rw [Nat.add_assoc] at this
                  exact this
        · cases hs
    · rename_i fs ht
      split at hs
      · rename_i l hfl
        cases hc : Nat.beq (P.cellsOf t) l.length with
        | false => rw [hc] at hs; cases hs
        | true =>
          rw [hc] at hs
          cases hs
          obtain ⟨xs, n, rfl, rfl, h1, h2, h3⟩ := DataW.trod_struct ht hf
          have := flds_open (cs := cs) (N := N) (fun t c x shs a1 a2 a3 => deep m t n c x shs N a1 a2 a3) fs.toList 0 _ xs hfl (by simpa using h2) (fun i fl hi => h3 i fl (by simpa using hi)) (fun y hy => by
            rcases hb with hb | hb
            · left
              simp only [uptoBulk] at hb
              have : uptoBulk y.1 ≤ uptoBulkAll (xs.map (·.1)) := bulk_mem (List.mem_map_of_mem hy)
              omega
            · exact .inr hb)
          rw [List.drop_zero, List.take_of_length_le (by rw [h1, Nat.eq_of_beq_eq_true hc]; exact Nat.le_refl _)] at this
          exact this
      · cases hs
    · cases hs
end
end Go.Z
