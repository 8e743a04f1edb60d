/- ChunkActions: where what it reads is of bulk at most 1048576, it is true, and the input reads as it did. -/
import Derived.Test.YtonfaeenoifomaaH9
import Derived.Test.YtonfaeenoifomaaRows
/- What a side has heard: read. -/
namespace Go.ZR
open Go.Proofs
open Go.Z Go.ZM Go.RowKit
set_option maxRecDepth 100000
theorem c26_ok : COk Try.prog (ctrs c26) := cok_cons ok53 (cok_cons ok60 (cok_cons ok58 cok_nil))
theorem c27_ok : COk Try.prog (ctrs c27) := cok_cons ok50q (cok_cons ok35 (cok_cons ok25 cok_nil))
theorem hea_bad (v : List Int) : (!decide ((getF v 0 4).snd = 0) || !decide ((getF v 4 4).snd = 0) || !decide ((getF v 8 2).snd = 0) || !decide ((getF v 10 2).snd = 0)) = decide (v.length < 12) := by
  rw [show decide ((getF v 0 4).snd = 0) = _ from get_err (i := 0), show decide ((getF v 4 4).snd = 0) = _ from get_err (i := 4), show decide ((getF v 8 2).snd = 0) = _ from get_err (i := 8), show decide ((getF v 10 2).snd = 0) = _ from get_err (i := 10)]
  by_cases h : 12 ≤ v.length
  · rw [decide_eq_false (p := v.length < 12) (by omega)]; simp; omega
  · rw [decide_eq_true (p := v.length < 12) (by omega)]; simp; omega
theorem gap_bad (v : List Int) (g : Nat) : (decide (v.length < 12 + 4 * g) || !decide ((getF v ((12 + 4 * g : Nat) : Int) 2).snd = 0) || !decide ((getF v (((12 + 4 * g : Nat) : Int) + 2) 2).snd = 0)) = decide (v.length < 12 + 4 * (g + 1)) := by
  rw [get_err, show (((12 + 4 * g : Nat) : Int) + 2) = ((14 + 4 * g : Nat) : Int) by omega, get_err]
  by_cases h : v.length < 12 + 4 * (g + 1)
  · rw [decide_eq_true h]; simp; omega
  · rw [decide_eq_false h]; simp; omega
theorem dup_bad (v : List Int) (a : Nat) : (decide (v.length < a) || !decide ((getF v (a : Int) 4).snd = 0)) = decide (v.length < a + 4) := by
  rw [get_err]
  by_cases h : v.length < a + 4
  · rw [decide_eq_true h]; simp; omega
  · rw [decide_eq_false h]; simp; omega
theorem herr_leaf {r : HeaR × Int} (h : r = (noHea, 2)) : 0 = r.1.cum ∧ 0 = r.1.win ∧ r.1.gaps.length = 0 ∧ r.1.dups = [] ∧ 2 = r.2 := by rw [h]; exact ⟨rfl, rfl, rfl, rfl, rfl⟩
theorem toHea_e1 {c : ChR} (h : badHea c) : toHea c = (noHea, 2) := by unfold toHea; rw [if_pos h]
theorem toHea_e2 {c : ChR} (h : (c.v.length : Int) ≠ 12 + 4 * nGap c.v + 4 * nDup c.v ∨ apartF (heaOf c.v).gaps = false) : toHea c = (noHea, 2) := by
  unfold toHea; split
  · rfl
  · first | rfl | rw [if_pos h]
theorem toHea_e3 {c : ChR} (h1 : ¬ badHea c) (h2 : (c.v.length : Int) = 12 + 4 * nGap c.v + 4 * nDup c.v) (h3 : apartF (heaOf c.v).gaps = true) : toHea c = (heaOf c.v, 0) := by
  unfold toHea; rw [if_neg h1, if_neg]; rw [h3]; simp; exact h2
theorem hea_w {v : List Int} (hv : okB v) : IntKind.u32.wrap (numAt v 0 4) = numAt v 0 4 ∧ IntKind.u32.wrap (numAt v 4 4) = numAt v 4 4 := by
  have a1 := num_rng hv 0 (k := 4)
  have a2 := num_rng hv 4 (k := 4)
  have p4 : (256 : Int) ^ 4 = 4294967296 := rfl
  rw [p4] at a1 a2
  constructor <;> (rw [IntKind.wrap_u32]; omega)
theorem gapsG_ok {v : List Int} (hv : okB v) {n : Nat} (hn : n ≤ 65535) : okGs (gapsG v n) := by
  refine ⟨by rw [gapsG_len]; omega, fun g hg => ?_⟩
  unfold gapsG at hg
  obtain ⟨k, _, rfl⟩ := List.mem_map.1 hg
  have a1 := num_rng hv ((12 + 4 * k : Nat) : Int) (k := 2)
  have a2 := num_rng hv ((14 + 4 * k : Nat) : Int) (k := 2)
  have p2 : (256 : Int) ^ 2 = 65536 := rfl
  rw [p2] at a1 a2
  unfold okG; simp only; omega
theorem bytes96 : Try.prog.types[(96 : Nat)].bytes = 4 := by kernel_rfl
theorem size96 : Try.prog.types[(96 : Nat)].size = 2 := by kernel_rfl
theorem bytes31 : Try.prog.types[(31 : Nat)].bytes = 4 := by kernel_rfl
theorem app_gap (l : List (Int × Int)) (a b : Int) {i j : Nat} (hi : i < l.length + 1) (hj : j < 2) :
    (bif i.blt l.length then gapCell l i j else [D.v (.int .u16 a), D.v (.int .u16 b)].getD ((i - l.length) * 2 + j) (D.v undef)) = gapCell (l ++ [(a, b)]) i j := by
  by_cases h : i < l.length
  · have e : (l ++ [(a, b)]).getD i (0, 0) = l.getD i (0, 0) := by simp [List.getD, List.getElem?_append_left h]
    rw [blt_t h, _root_.cond_true]
    unfold gapCell
    rw [e]
  · have hi' : i = l.length := by omega
    have e : (l ++ [(a, b)]).getD i (0, 0) = (a, b) := by subst hi'; simp [List.getD]
    rw [blt_f h, _root_.cond_false, show (i - l.length) * 2 + j = j by omega]
    unfold gapCell
    rw [e]
    match j, hj with
    | 0, _ => rfl
    | 1, _ => rfl
theorem bad_t {c : ChR} {x y : Int} (hx : x = nGap c.v) (hy : y = nDup c.v) (e : (!decide (c.t = 3) || !decide (c.f = 0) || decide (c.v.length < 12) || decide (64 < x) || decide (64 < y)) = true) : badHea c := by
  subst hx hy; unfold badHea; simp at e; omega
theorem bad_f {c : ChR} {x y : Int} (hx : x = nGap c.v) (hy : y = nDup c.v) (e : (!decide (c.t = 3) || !decide (c.f = 0) || decide (c.v.length < 12) || decide (64 < x) || decide (64 < y)) = false) : ¬ badHea c := by
  subst hx hy; unfold badHea; simp at e; omega
theorem u16_num {v : List Int} (hv : okB v) (i : Int) : IntKind.u16.wrap (numAt v i 2) = numAt v i 2 := by
  have a := num_rng hv i (k := 2)
  have p2 : (256 : Int) ^ 2 = 65536 := rfl
  rw [p2] at a
  rw [IntKind.wrap_u16]; omega
theorem u32_num {v : List Int} (hv : okB v) (i : Int) : IntKind.u32.wrap (numAt v i 4) = numAt v i 4 := by
  have a := num_rng hv i (k := 4)
  have p4 : (256 : Int) ^ 4 = 4294967296 := rfl
  rw [p4] at a
  rw [IntKind.wrap_u32]; omega
theorem r1_t {c : ChR} (e : (!decide (c.t = 3) || decide ((c.v.length : Int) < 12)) = true) : c.t ≠ 3 ∨ c.v.length < 12 := by simp at e; omega
theorem r1_f {c : ChR} (e : (!decide (c.t = 3) || decide ((c.v.length : Int) < 12)) = false) : ¬ (c.t ≠ 3 ∨ c.v.length < 12) := by simp at e; omega
theorem r2_t {c : ChR} {x y z : Int} (hx : x = nGap c.v) (hy : y = nDup c.v) (hz : z = 12 + 4 * nGap c.v + 4 * nDup c.v) (e : (decide (64 < x) || decide (64 < y) || !decide ((c.v.length : Int) = z)) = true) : 64 < nGap c.v ∨ 64 < nDup c.v ∨ (c.v.length : Int) ≠ 12 + 4 * nGap c.v + 4 * nDup c.v := by
  subst hx hy hz; simp at e; omega
theorem r2_f {c : ChR} {x y z : Int} (hx : x = nGap c.v) (hy : y = nDup c.v) (hz : z = 12 + 4 * nGap c.v + 4 * nDup c.v) (e : (decide (64 < x) || decide (64 < y) || !decide ((c.v.length : Int) = z)) = false) : ¬ (64 < nGap c.v ∨ 64 < nDup c.v ∨ (c.v.length : Int) ≠ 12 + 4 * nGap c.v + 4 * nDup c.v) := by
  subst hx hy hz; simp at e; omega
theorem href1 {c : ChR} (hv : okB c.v) (h : c.t ≠ 3 ∨ c.v.length < 12) : toHea c = (noHea, 2) := by rw [toHea_eq hv]; unfold toHeaRef; rw [if_pos h]
theorem href2 {c : ChR} (hv : okB c.v) (h : 64 < nGap c.v ∨ 64 < nDup c.v ∨ (c.v.length : Int) ≠ 12 + 4 * nGap c.v + 4 * nDup c.v) : toHea c = (noHea, 2) := by
  rw [toHea_eq hv]; unfold toHeaRef; split
  · rfl
  · first | rfl | rw [if_pos h]
theorem href3 {c : ChR} (hv : okB c.v) (h : (fromHea (heaOf c.v)).2 ≠ 0 ∨ sameB (fromHea (heaOf c.v)).1 c = false) : toHea c = (noHea, 2) := by
  rw [toHea_eq hv]; unfold toHeaRef; split
  · rfl
  split
  · rfl
  · first | rfl | rw [if_pos h]
theorem href4 {c : ChR} (hv : okB c.v) (h1 : ¬ (c.t ≠ 3 ∨ c.v.length < 12)) (h2 : ¬ (64 < nGap c.v ∨ 64 < nDup c.v ∨ (c.v.length : Int) ≠ 12 + 4 * nGap c.v + 4 * nDup c.v)) (h3 : (fromHea (heaOf c.v)).2 = 0) (h4 : sameB (fromHea (heaOf c.v)).1 c = true) : toHea c = (heaOf c.v, 0) := by
  rw [toHea_eq hv]; unfold toHeaRef; rw [if_neg h1, if_neg h2, if_neg]; rw [h3, h4]; simp
theorem dupsG_ok {v : List Int} (hv : okB v) {g n : Nat} (hn : n ≤ 65535) : okDs (dupsG v g n) := by
  refine ⟨by rw [dupsG_len]; omega, fun x hx => ?_⟩
  unfold dupsG at hx
  obtain ⟨k, _, rfl⟩ := List.mem_map.1 hx
  have a1 := num_rng hv ((12 + 4 * g + 4 * k : Nat) : Int) (k := 4)
  have p4 : (256 : Int) ^ 4 = 4294967296 := rfl
  rw [p4] at a1
  omega
theorem heaOf_ok {v : List Int} (hv : okB v) : okHea (heaOf v) := by
  obtain ⟨⟨G0, G1⟩, ⟨D0, D1⟩⟩ := n_rng hv
  have a1 := num_rng hv 0 (k := 4)
  have a2 := num_rng hv 4 (k := 4)
  have p4 : (256 : Int) ^ 4 = 4294967296 := rfl
  rw [p4] at a1 a2
  exact ⟨by simp only [heaOf, hea1]; omega, by simp only [heaOf, hea1]; omega, gapsG_ok hv (by omega), dupsG_ok hv (by omega)⟩
noncomputable def code36 : Code := match Try.f36.body with | some c => c | none => .skip
set_option maxHeartbeats 4000000 in
theorem vc36 : ∀ (c : ChR), let y := getF c.v (0 : Int) (Int.toNat (4 : Int)); let y_1 := getF c.v ((0 : Int) + (4 : Int)) (Int.toNat (4 : Int)); let y_2 := getF c.v ((0 : Int) + (4 : Int) + (4 : Int)) (Int.toNat (2 : Int));
  let y_3 := numAt c.v ((0 : Int) + (4 : Int) + (4 : Int)) (Int.toNat (2 : Int)); let y_4 := numAt c.v ((0 : Int) + (4 : Int) + (4 : Int) + (2 : Int)) (Int.toNat (2 : Int));
  let y_5 := getF c.v ((0 : Int) + (4 : Int) + (4 : Int) + (2 : Int)) (Int.toNat (2 : Int)); okB c.v → sm c.v.length → (0 : Int) ≤ c.f → c.f ≤ (255 : Int) →
  (∃ (v : List Int), ∃ (i : Int), ∃ (b : Bool), ∃ (k : Nat), [O.ptr (90 : Nat) [O.d (D.ints IntKind.u8 c.v), O.d (D.v (Value.int IntKind.i64 (0 : Int))), O.d (D.v (Value.bool false))], O.d (D.v (Value.int IntKind.i64 (4 : Int)))] = [O.ptr (90 : Nat) [O.d (D.ints IntKind.u8 v), O.d (D.v (Value.int IntKind.i64 i)), O.d (D.v (Value.bool b))], O.d (D.v (Value.int IntKind.i64 (↑k : Int)))] ∧
  sm v.length ∧ okB v ∧ (0 : Int) ≤ i ∧ i ≤ (1099511627776 : Int) ∧ (1 : Nat) ≤ k ∧ k ≤ (8 : Nat)) ∧ (∃ (v : List Int), ∃ (i : Int), ∃ (b : Bool), ∃ (k : Nat), [O.ptr (90 : Nat) [O.d (D.ints IntKind.u8 c.v), O.d (D.v (Value.int IntKind.i64 ((0 : Int) + (4 : Int)))), O.d (D.v (Value.bool (false || !decide (y.snd = (0 : Int)))))], O.d (D.v (Value.int IntKind.i64 (4 : Int)))] = [O.ptr (90 : Nat) [O.d (D.ints IntKind.u8 v), O.d (D.v (Value.int IntKind.i64 i)), O.d (D.v (Value.bool b))], O.d (D.v (Value.int IntKind.i64 (↑k : Int)))] ∧
  sm v.length ∧ okB v ∧ (0 : Int) ≤ i ∧ i ≤ (1099511627776 : Int) ∧ (1 : Nat) ≤ k ∧ k ≤ (8 : Nat)) ∧ (∃ (v : List Int), ∃ (i : Int), ∃ (b : Bool), ∃ (k : Nat), [O.ptr (90 : Nat) [O.d (D.ints IntKind.u8 c.v), O.d (D.v (Value.int IntKind.i64 ((0 : Int) + (4 : Int) + (4 : Int)))), O.d (D.v (Value.bool (false || !decide (y.snd = (0 : Int)) || !decide (y_1.snd = (0 : Int)))))], O.d (D.v (Value.int IntKind.i64 (2 : Int)))] = [O.ptr (90 : Nat) [O.d (D.ints IntKind.u8 v), O.d (D.v (Value.int IntKind.i64 i)), O.d (D.v (Value.bool b))], O.d (D.v (Value.int IntKind.i64 (↑k : Int)))] ∧
  sm v.length ∧ okB v ∧ (0 : Int) ≤ i ∧ i ≤ (1099511627776 : Int) ∧ (1 : Nat) ≤ k ∧ k ≤ (8 : Nat)) ∧ (∃ (v : List Int), ∃ (i : Int), ∃ (b : Bool), ∃ (k : Nat), [O.ptr (90 : Nat) [O.d (D.ints IntKind.u8 c.v), O.d (D.v (Value.int IntKind.i64 ((0 : Int) + (4 : Int) + (4 : Int) + (2 : Int)))), O.d (D.v (Value.bool (false || !decide (y.snd = (0 : Int)) || !decide (y_1.snd = (0 : Int)) || !decide (y_2.snd = (0 : Int)))))], O.d (D.v (Value.int IntKind.i64 (2 : Int)))] = [O.ptr (90 : Nat) [O.d (D.ints IntKind.u8 v), O.d (D.v (Value.int IntKind.i64 i)), O.d (D.v (Value.bool b))], O.d (D.v (Value.int IntKind.i64 (↑k : Int)))] ∧
  sm v.length ∧ okB v ∧ (0 : Int) ≤ i ∧ i ≤ (1099511627776 : Int) ∧ (1 : Nat) ≤ k ∧ k ≤ (8 : Nat)) ∧ True ∧ sw (!!decide (c.t = (3 : Int))) (SV.p (1 : Nat) (1 : Nat) = SV.p (1 : Nat) (1 : Nat)) True ∧
  sw (!!decide (c.t = (3 : Int))) ([!!decide (c.t = (3 : Int))] = [!!decide (c.t = (3 : Int))] ∧ SV.c (Value.int IntKind.u8 c.f) = SV.c (Value.int IntKind.u8 c.f)) True ∧
  sw (!!decide (c.t = (3 : Int))) ([!!decide (c.t = (3 : Int))] = [!!decide (c.t = (3 : Int))] ∧ True ∧ SV.c (Value.bool !decide (c.f = (0 : Int))) = SV.c (Value.bool !decide (c.f = (0 : Int)))) True ∧
  [!!decide (c.t = (3 : Int))] = [!!decide (c.t = (3 : Int))] ∧ sw (!(!decide (c.t = (3 : Int)) || !decide (c.f = (0 : Int)))) (SV.p (3 : Nat) (0 : Nat) = SV.p (3 : Nat) (0 : Nat)) True ∧
  sw (!(!decide (c.t = (3 : Int)) || !decide (c.f = (0 : Int)))) ([!(!decide (c.t = (3 : Int)) || !decide (c.f = (0 : Int)))] = [!(!decide (c.t = (3 : Int)) || !decide (c.f = (0 : Int)))] ∧
  SV.p (3 : Nat) (0 : Nat) = SV.p (3 : Nat) (0 : Nat)) True ∧ sw (!(!decide (c.t = (3 : Int)) || !decide (c.f = (0 : Int)))) ([!(!decide (c.t = (3 : Int)) || !decide (c.f = (0 : Int)))] = [!(!decide (c.t = (3 : Int)) || !decide (c.f = (0 : Int)))] ∧
  SV.p (3 : Nat) (2 : Nat) = SV.p (3 : Nat) (2 : Nat)) True ∧ sw (!(!decide (c.t = (3 : Int)) || !decide (c.f = (0 : Int)))) ([!(!decide (c.t = (3 : Int)) || !decide (c.f = (0 : Int)))] = [!(!decide (c.t = (3 : Int)) || !decide (c.f = (0 : Int)))] ∧
  SV.c (Value.bool (false || !decide (y.snd = (0 : Int)) || !decide (y_1.snd = (0 : Int)) || !decide (y_2.snd = (0 : Int)) || !decide (y_5.snd = (0 : Int)))) = SV.c (Value.bool (false || !decide (y.snd = (0 : Int)) || !decide (y_1.snd = (0 : Int)) || !decide (y_2.snd = (0 : Int)) || !decide (y_5.snd = (0 : Int))))) True ∧
  [!(!decide (c.t = (3 : Int)) || !decide (c.f = (0 : Int)))] = [!(!decide (c.t = (3 : Int)) || !decide (c.f = (0 : Int)))] ∧ sw (!(!decide (c.t = (3 : Int)) || !decide (c.f = (0 : Int)) || (false || !decide (y.snd = (0 : Int)) || !decide (y_1.snd = (0 : Int)) || !decide (y_2.snd = (0 : Int)) || !decide (y_5.snd = (0 : Int))))) (SV.c (Value.int IntKind.i64 (IntKind.i64.wrap y_3)) = SV.c (Value.int IntKind.i64 (IntKind.i64.wrap y_3))) True ∧
  sw (!(!decide (c.t = (3 : Int)) || !decide (c.f = (0 : Int)) || (false || !decide (y.snd = (0 : Int)) || !decide (y_1.snd = (0 : Int)) || !decide (y_2.snd = (0 : Int)) || !decide (y_5.snd = (0 : Int))))) ([!(!decide (c.t = (3 : Int)) || !decide (c.f = (0 : Int)) || (false || !decide (y.snd = (0 : Int)) || !decide (y_1.snd = (0 : Int)) || !decide (y_2.snd = (0 : Int)) || !decide (y_5.snd = (0 : Int))))] = [!(!decide (c.t = (3 : Int)) || !decide (c.f = (0 : Int)) || (false || !decide (y.snd = (0 : Int)) || !decide (y_1.snd = (0 : Int)) || !decide (y_2.snd = (0 : Int)) || !decide (y_5.snd = (0 : Int))))] ∧
  True ∧ SV.c (Value.bool (decide ((64 : Int) < IntKind.i64.wrap y_3))) = SV.c (Value.bool (decide ((64 : Int) < IntKind.i64.wrap y_3)))) True ∧ [!(!decide (c.t = (3 : Int)) || !decide (c.f = (0 : Int)) || (false || !decide (y.snd = (0 : Int)) || !decide (y_1.snd = (0 : Int)) || !decide (y_2.snd = (0 : Int)) || !decide (y_5.snd = (0 : Int))))] = [!(!decide (c.t = (3 : Int)) || !decide (c.f = (0 : Int)) || (false || !decide (y.snd = (0 : Int)) || !decide (y_1.snd = (0 : Int)) || !decide (y_2.snd = (0 : Int)) || !decide (y_5.snd = (0 : Int))))] ∧
  sw (!(!decide (c.t = (3 : Int)) || !decide (c.f = (0 : Int)) || (false || !decide (y.snd = (0 : Int)) || !decide (y_1.snd = (0 : Int)) || !decide (y_2.snd = (0 : Int)) || !decide (y_5.snd = (0 : Int))) || decide ((64 : Int) < IntKind.i64.wrap y_3))) (SV.c (Value.int IntKind.i64 (IntKind.i64.wrap y_4)) = SV.c (Value.int IntKind.i64 (IntKind.i64.wrap y_4))) True ∧
  sw (!(!decide (c.t = (3 : Int)) || !decide (c.f = (0 : Int)) || (false || !decide (y.snd = (0 : Int)) || !decide (y_1.snd = (0 : Int)) || !decide (y_2.snd = (0 : Int)) || !decide (y_5.snd = (0 : Int))) || decide ((64 : Int) < IntKind.i64.wrap y_3))) ([!(!decide (c.t = (3 : Int)) || !decide (c.f = (0 : Int)) || (false || !decide (y.snd = (0 : Int)) || !decide (y_1.snd = (0 : Int)) || !decide (y_2.snd = (0 : Int)) || !decide (y_5.snd = (0 : Int))) || decide ((64 : Int) < IntKind.i64.wrap y_3))] = [!(!decide (c.t = (3 : Int)) || !decide (c.f = (0 : Int)) || (false || !decide (y.snd = (0 : Int)) || !decide (y_1.snd = (0 : Int)) || !decide (y_2.snd = (0 : Int)) || !decide (y_5.snd = (0 : Int))) || decide ((64 : Int) < IntKind.i64.wrap y_3))] ∧
  True ∧ SV.c (Value.bool (decide ((64 : Int) < IntKind.i64.wrap y_4))) = SV.c (Value.bool (decide ((64 : Int) < IntKind.i64.wrap y_4)))) True ∧ [!(!decide (c.t = (3 : Int)) || !decide (c.f = (0 : Int)) || (false || !decide (y.snd = (0 : Int)) || !decide (y_1.snd = (0 : Int)) || !decide (y_2.snd = (0 : Int)) || !decide (y_5.snd = (0 : Int))) || decide ((64 : Int) < IntKind.i64.wrap y_3))] = [!(!decide (c.t = (3 : Int)) || !decide (c.f = (0 : Int)) || (false || !decide (y.snd = (0 : Int)) || !decide (y_1.snd = (0 : Int)) || !decide (y_2.snd = (0 : Int)) || !decide (y_5.snd = (0 : Int))) || decide ((64 : Int) < IntKind.i64.wrap y_3))] ∧
  sw (!decide (c.t = (3 : Int)) || !decide (c.f = (0 : Int)) || (false || !decide (y.snd = (0 : Int)) || !decide (y_1.snd = (0 : Int)) || !decide (y_2.snd = (0 : Int)) || !decide (y_5.snd = (0 : Int))) || decide ((64 : Int) < IntKind.i64.wrap y_3) || decide ((64 : Int) < IntKind.i64.wrap y_4)) ((0 : Int) = (toHea (ChR.mk c.t c.f c.v)).fst.cum ∧
  (0 : Int) = (toHea (ChR.mk c.t c.f c.v)).fst.win ∧ (toHea (ChR.mk c.t c.f c.v)).fst.gaps.length = (0 : Nat) ∧ (toHea (ChR.mk c.t c.f c.v)).fst.dups = [] ∧
  (2 : Int) = (toHea (ChR.mk c.t c.f c.v)).snd ∧ (true && true) = true) (∃ (g0 : Nat), g0 ≤ (nGap c.v).toNat ∧ (0 : Int) = (↑g0 : Int) ∧ c.v = c.v ∧ (0 : Int) + (4 : Int) + (4 : Int) + (2 : Int) + (2 : Int) = (↑((12 : Nat) + (4 : Nat) * g0) : Int) ∧
  (false || !decide (y.snd = (0 : Int)) || !decide (y_1.snd = (0 : Int)) || !decide (y_2.snd = (0 : Int)) || !decide (y_5.snd = (0 : Int))) = decide (c.v.length < (12 : Nat) + (4 : Nat) * g0) ∧
  SV.c (Value.int IntKind.u32 (IntKind.u32.wrap (numAt c.v (0 : Int) (Int.toNat (4 : Int))))) = SV.c (Value.int IntKind.u32 (IntKind.u32.wrap (numAt c.v (0 : Int) (Int.toNat (4 : Int))))) ∧
  SV.c (Value.int IntKind.u32 (IntKind.u32.wrap (numAt c.v ((0 : Int) + (4 : Int)) (Int.toNat (4 : Int))))) = SV.c (Value.int IntKind.u32 (IntKind.u32.wrap (numAt c.v ((0 : Int) + (4 : Int)) (Int.toNat (4 : Int))))) ∧
  (gapsG c.v g0).length = (0 : Nat) ∧ SV.nil = SV.nil ∧ (!(Nat.beq (6 : Nat) (3 : Nat) || false) && (!false && true) && true) = true ∧ ∀ (g : Nat), g ≤ (nGap c.v).toNat →
  True ∧ sw (decide ((↑g : Int) < IntKind.i64.wrap y_3)) (((∃ (v : List Int), ∃ (i : Int), ∃ (b : Bool), ∃ (k : Nat), [O.ptr (90 : Nat) [O.d (D.ints IntKind.u8 c.v), O.d (D.v (Value.int IntKind.i64 (↑((12 : Nat) + (4 : Nat) * g) : Int))), O.d (D.v (Value.bool (decide (c.v.length < (12 : Nat) + (4 : Nat) * g))))], O.d (D.v (Value.int IntKind.i64 (2 : Int)))] = [O.ptr (90 : Nat) [O.d (D.ints IntKind.u8 v), O.d (D.v (Value.int IntKind.i64 i)), O.d (D.v (Value.bool b))], O.d (D.v (Value.int IntKind.i64 (↑k : Int)))] ∧
  sm v.length ∧ okB v ∧ (0 : Int) ≤ i ∧ i ≤ (1099511627776 : Int) ∧ (1 : Nat) ≤ k ∧ k ≤ (8 : Nat)) ∧ ((∃ (v : List Int), ∃ (i : Int), ∃ (b : Bool), ∃ (k : Nat), [O.ptr (90 : Nat) [O.d (D.ints IntKind.u8 c.v), O.d (D.v (Value.int IntKind.i64 ((↑((12 : Nat) + (4 : Nat) * g) : Int) + (2 : Int)))), O.d (D.v (Value.bool (decide (c.v.length < (12 : Nat) + (4 : Nat) * g) || !decide ((getF c.v (↑((12 : Nat) + (4 : Nat) * g) : Int) (Int.toNat (2 : Int))).snd = (0 : Int)))))], O.d (D.v (Value.int IntKind.i64 (2 : Int)))] = [O.ptr (90 : Nat) [O.d (D.ints IntKind.u8 v), O.d (D.v (Value.int IntKind.i64 i)), O.d (D.v (Value.bool b))], O.d (D.v (Value.int IntKind.i64 (↑k : Int)))] ∧
  sm v.length ∧ okB v ∧ (0 : Int) ≤ i ∧ i ≤ (1099511627776 : Int) ∧ (1 : Nat) ≤ k ∧ k ≤ (8 : Nat)) ∧ ((True ∧ ((gapsG c.v g).length + (1 : Nat)) * Try.prog.types[(96 : Nat)].bytes ≤ (140737488355328 : Nat) ∧
  (True ∧ ∃ (g' : Nat), g' ≤ (nGap c.v).toNat ∧ (nGap c.v).toNat - g' < (nGap c.v).toNat - g ∧ (IntKind.i64.wrap ((↑g : Int) + (1 : Int)) = (↑g' : Int) ∧
  c.v = c.v ∧ (↑((12 : Nat) + (4 : Nat) * g) : Int) + (2 : Int) + (2 : Int) = (↑((12 : Nat) + (4 : Nat) * g') : Int) ∧ (decide (c.v.length < (12 : Nat) + (4 : Nat) * g) || !decide ((getF c.v (↑((12 : Nat) + (4 : Nat) * g) : Int) (Int.toNat (2 : Int))).snd = (0 : Int)) || !decide ((getF c.v ((↑((12 : Nat) + (4 : Nat) * g) : Int) + (2 : Int)) (Int.toNat (2 : Int))).snd = (0 : Int))) = decide (c.v.length < (12 : Nat) + (4 : Nat) * g') ∧
  SV.c (Value.int IntKind.u32 (IntKind.u32.wrap (numAt c.v (0 : Int) (Int.toNat (4 : Int))))) = SV.c (Value.int IntKind.u32 (IntKind.u32.wrap (numAt c.v (0 : Int) (Int.toNat (4 : Int))))) ∧
  SV.c (Value.int IntKind.u32 (IntKind.u32.wrap (numAt c.v ((0 : Int) + (4 : Int)) (Int.toNat (4 : Int))))) = SV.c (Value.int IntKind.u32 (IntKind.u32.wrap (numAt c.v ((0 : Int) + (4 : Int)) (Int.toNat (4 : Int))))) ∧
  ((gapsG c.v g).length + (1 : Nat) = (gapsG c.v g').length ∧ ∀ (i : Nat), i < (gapsG c.v g).length + (1 : Nat) → ∀ (j : Nat), j < (2 : Nat) → (bif i.blt (gapsG c.v g).length then gapCell (gapsG c.v g) i j else [D.v (Value.int IntKind.u16 (IntKind.u16.wrap (numAt c.v (↑((12 : Nat) + (4 : Nat) * g) : Int) (Int.toNat (2 : Int))))), D.v (Value.int IntKind.u16 (IntKind.u16.wrap (numAt c.v ((↑((12 : Nat) + (4 : Nat) * g) : Int) + (2 : Int)) (Int.toNat (2 : Int)))))].getD ((i - (gapsG c.v g).length) * Try.prog.types[(96 : Nat)].size + j) (D.v undef)) = gapCell (gapsG c.v g') i j) ∧
  SV.nil = SV.nil ∧ (!(Nat.beq (6 : Nat) (3 : Nat) || (Nat.beq (14 : Nat) (3 : Nat) || false)) && (!(Nat.beq (14 : Nat) (6 : Nat) || false) && (!false && true)) && true && ((Nat.ble (9 : Nat) (3 : Nat) || (Nat.beq (3 : Nat) (3 : Nat) || (Nat.beq (6 : Nat) (3 : Nat) || false))) && ((Nat.ble (9 : Nat) (6 : Nat) || (Nat.beq (3 : Nat) (6 : Nat) || (Nat.beq (6 : Nat) (6 : Nat) || false))) && ((Nat.ble (9 : Nat) (14 : Nat) || (Nat.beq (3 : Nat) (14 : Nat) || (Nat.beq (6 : Nat) (14 : Nat) || false))) && true)))) = true) ∧
  (some (SV.c (Value.int IntKind.i64 (IntKind.i64.wrap y_3))) = some (SV.c (Value.int IntKind.i64 (IntKind.i64.wrap y_3))) ∧ some (SV.c (Value.bool (!decide (c.t = (3 : Int)) || !decide (c.f = (0 : Int)) || (false || !decide (y.snd = (0 : Int)) || !decide (y_1.snd = (0 : Int)) || !decide (y_2.snd = (0 : Int)) || !decide (y_5.snd = (0 : Int))) || decide ((64 : Int) < IntKind.i64.wrap y_3) || decide ((64 : Int) < IntKind.i64.wrap y_4)))) = some (SV.c (Value.bool (!decide (c.t = (3 : Int)) || !decide (c.f = (0 : Int)) || (false || !decide (y.snd = (0 : Int)) || !decide (y_1.snd = (0 : Int)) || !decide (y_2.snd = (0 : Int)) || !decide (y_5.snd = (0 : Int))) || decide ((64 : Int) < IntKind.i64.wrap y_3) || decide ((64 : Int) < IntKind.i64.wrap y_4)))) ∧
  some (SV.w [!(!decide (c.t = (3 : Int)) || !decide (c.f = (0 : Int)) || (false || !decide (y.snd = (0 : Int)) || !decide (y_1.snd = (0 : Int)) || !decide (y_2.snd = (0 : Int)) || !decide (y_5.snd = (0 : Int))) || decide ((64 : Int) < IntKind.i64.wrap y_3))] (SV.c (Value.bool (decide ((64 : Int) < IntKind.i64.wrap y_4))))) = some (SV.w [!(!decide (c.t = (3 : Int)) || !decide (c.f = (0 : Int)) || (false || !decide (y.snd = (0 : Int)) || !decide (y_1.snd = (0 : Int)) || !decide (y_2.snd = (0 : Int)) || !decide (y_5.snd = (0 : Int))) || decide ((64 : Int) < IntKind.i64.wrap y_3))] (SV.c (Value.bool (decide ((64 : Int) < IntKind.i64.wrap y_4))))) ∧
  some (SV.w [!(!decide (c.t = (3 : Int)) || !decide (c.f = (0 : Int)) || (false || !decide (y.snd = (0 : Int)) || !decide (y_1.snd = (0 : Int)) || !decide (y_2.snd = (0 : Int)) || !decide (y_5.snd = (0 : Int))) || decide ((64 : Int) < IntKind.i64.wrap y_3))] (SV.c (Value.int IntKind.i64 (IntKind.i64.wrap y_4)))) = some (SV.w [!(!decide (c.t = (3 : Int)) || !decide (c.f = (0 : Int)) || (false || !decide (y.snd = (0 : Int)) || !decide (y_1.snd = (0 : Int)) || !decide (y_2.snd = (0 : Int)) || !decide (y_5.snd = (0 : Int))) || decide ((64 : Int) < IntKind.i64.wrap y_3))] (SV.c (Value.int IntKind.i64 (IntKind.i64.wrap y_4)))) ∧
  some (SV.c (Value.bool (!decide (c.t = (3 : Int)) || !decide (c.f = (0 : Int)) || (false || !decide (y.snd = (0 : Int)) || !decide (y_1.snd = (0 : Int)) || !decide (y_2.snd = (0 : Int)) || !decide (y_5.snd = (0 : Int))) || decide ((64 : Int) < IntKind.i64.wrap y_3)))) = some (SV.c (Value.bool (!decide (c.t = (3 : Int)) || !decide (c.f = (0 : Int)) || (false || !decide (y.snd = (0 : Int)) || !decide (y_1.snd = (0 : Int)) || !decide (y_2.snd = (0 : Int)) || !decide (y_5.snd = (0 : Int))) || decide ((64 : Int) < IntKind.i64.wrap y_3)))) ∧
  some (SV.c (Value.bool (!decide (c.t = (3 : Int)) || !decide (c.f = (0 : Int)) || (false || !decide (y.snd = (0 : Int)) || !decide (y_1.snd = (0 : Int)) || !decide (y_2.snd = (0 : Int)) || !decide (y_5.snd = (0 : Int))) || decide ((64 : Int) < IntKind.i64.wrap y_3)))) = some (SV.c (Value.bool (!decide (c.t = (3 : Int)) || !decide (c.f = (0 : Int)) || (false || !decide (y.snd = (0 : Int)) || !decide (y_1.snd = (0 : Int)) || !decide (y_2.snd = (0 : Int)) || !decide (y_5.snd = (0 : Int))) || decide ((64 : Int) < IntKind.i64.wrap y_3)))) ∧
  some (SV.w [!(!decide (c.t = (3 : Int)) || !decide (c.f = (0 : Int)) || (false || !decide (y.snd = (0 : Int)) || !decide (y_1.snd = (0 : Int)) || !decide (y_2.snd = (0 : Int)) || !decide (y_5.snd = (0 : Int))))] (SV.c (Value.bool (decide ((64 : Int) < IntKind.i64.wrap y_3))))) = some (SV.w [!(!decide (c.t = (3 : Int)) || !decide (c.f = (0 : Int)) || (false || !decide (y.snd = (0 : Int)) || !decide (y_1.snd = (0 : Int)) || !decide (y_2.snd = (0 : Int)) || !decide (y_5.snd = (0 : Int))))] (SV.c (Value.bool (decide ((64 : Int) < IntKind.i64.wrap y_3))))) ∧
  some (SV.w [!(!decide (c.t = (3 : Int)) || !decide (c.f = (0 : Int)) || (false || !decide (y.snd = (0 : Int)) || !decide (y_1.snd = (0 : Int)) || !decide (y_2.snd = (0 : Int)) || !decide (y_5.snd = (0 : Int))))] (SV.c (Value.int IntKind.i64 (IntKind.i64.wrap y_3)))) = some (SV.w [!(!decide (c.t = (3 : Int)) || !decide (c.f = (0 : Int)) || (false || !decide (y.snd = (0 : Int)) || !decide (y_1.snd = (0 : Int)) || !decide (y_2.snd = (0 : Int)) || !decide (y_5.snd = (0 : Int))))] (SV.c (Value.int IntKind.i64 (IntKind.i64.wrap y_3)))) ∧
  some (SV.c (Value.bool (!decide (c.t = (3 : Int)) || !decide (c.f = (0 : Int)) || (false || !decide (y.snd = (0 : Int)) || !decide (y_1.snd = (0 : Int)) || !decide (y_2.snd = (0 : Int)) || !decide (y_5.snd = (0 : Int)))))) = some (SV.c (Value.bool (!decide (c.t = (3 : Int)) || !decide (c.f = (0 : Int)) || (false || !decide (y.snd = (0 : Int)) || !decide (y_1.snd = (0 : Int)) || !decide (y_2.snd = (0 : Int)) || !decide (y_5.snd = (0 : Int)))))) ∧
  some (SV.c (Value.bool (!decide (c.t = (3 : Int)) || !decide (c.f = (0 : Int)) || (false || !decide (y.snd = (0 : Int)) || !decide (y_1.snd = (0 : Int)) || !decide (y_2.snd = (0 : Int)) || !decide (y_5.snd = (0 : Int)))))) = some (SV.c (Value.bool (!decide (c.t = (3 : Int)) || !decide (c.f = (0 : Int)) || (false || !decide (y.snd = (0 : Int)) || !decide (y_1.snd = (0 : Int)) || !decide (y_2.snd = (0 : Int)) || !decide (y_5.snd = (0 : Int)))))) ∧
  some (SV.w [!(!decide (c.t = (3 : Int)) || !decide (c.f = (0 : Int)))] (SV.c (Value.bool (false || !decide (y.snd = (0 : Int)) || !decide (y_1.snd = (0 : Int)) || !decide (y_2.snd = (0 : Int)) || !decide (y_5.snd = (0 : Int)))))) = some (SV.w [!(!decide (c.t = (3 : Int)) || !decide (c.f = (0 : Int)))] (SV.c (Value.bool (false || !decide (y.snd = (0 : Int)) || !decide (y_1.snd = (0 : Int)) || !decide (y_2.snd = (0 : Int)) || !decide (y_5.snd = (0 : Int)))))) ∧
  some (SV.w [!(!decide (c.t = (3 : Int)) || !decide (c.f = (0 : Int)))] (SV.p (3 : Nat) (2 : Nat))) = some (SV.w [!(!decide (c.t = (3 : Int)) || !decide (c.f = (0 : Int)))] (SV.p (3 : Nat) (2 : Nat))) ∧
  some (SV.w [!(!decide (c.t = (3 : Int)) || !decide (c.f = (0 : Int)))] (SV.p (3 : Nat) (0 : Nat))) = some (SV.w [!(!decide (c.t = (3 : Int)) || !decide (c.f = (0 : Int)))] (SV.p (3 : Nat) (0 : Nat))) ∧
  some (SV.w [!(!decide (c.t = (3 : Int)) || !decide (c.f = (0 : Int)))] (SV.p (3 : Nat) (0 : Nat))) = some (SV.w [!(!decide (c.t = (3 : Int)) || !decide (c.f = (0 : Int)))] (SV.p (3 : Nat) (0 : Nat))) ∧
  some (SV.c (Value.bool (!decide (c.t = (3 : Int)) || !decide (c.f = (0 : Int))))) = some (SV.c (Value.bool (!decide (c.t = (3 : Int)) || !decide (c.f = (0 : Int))))) ∧
  some (SV.c (Value.bool (!decide (c.t = (3 : Int)) || !decide (c.f = (0 : Int))))) = some (SV.c (Value.bool (!decide (c.t = (3 : Int)) || !decide (c.f = (0 : Int))))) ∧
  some (SV.w [!!decide (c.t = (3 : Int))] (SV.c (Value.bool !decide (c.f = (0 : Int))))) = some (SV.w [!!decide (c.t = (3 : Int))] (SV.c (Value.bool !decide (c.f = (0 : Int))))) ∧
  some (SV.w [!!decide (c.t = (3 : Int))] (SV.c (Value.int IntKind.u8 c.f))) = some (SV.w [!!decide (c.t = (3 : Int))] (SV.c (Value.int IntKind.u8 c.f))) ∧
  some (SV.w [!!decide (c.t = (3 : Int))] (SV.p (1 : Nat) (1 : Nat))) = some (SV.w [!!decide (c.t = (3 : Int))] (SV.p (1 : Nat) (1 : Nat))) ∧ some (SV.c (Value.bool !decide (c.t = (3 : Int)))) = some (SV.c (Value.bool !decide (c.t = (3 : Int)))) ∧
  some (SV.c (Value.bool !decide (c.t = (3 : Int)))) = some (SV.c (Value.bool !decide (c.t = (3 : Int)))) ∧ some (SV.c (Value.int IntKind.u8 c.t)) = some (SV.c (Value.int IntKind.u8 c.t)) ∧
  some (SV.p (1 : Nat) (0 : Nat)) = some (SV.p (1 : Nat) (0 : Nat)) ∧ some (SV.c (Value.int IntKind.i64 (IntKind.i64.wrap y_4))) = some (SV.c (Value.int IntKind.i64 (IntKind.i64.wrap y_4))) ∧
  some (SV.c (Value.int IntKind.i64 (IntKind.i64.wrap y_3))) = some (SV.c (Value.int IntKind.i64 (IntKind.i64.wrap y_3))) ∧ some (SV.c (Value.int IntKind.i64 (IntKind.i64.wrap y_4))) = some (SV.c (Value.int IntKind.i64 (IntKind.i64.wrap y_4))) ∧
  some (SV.c (Value.int IntKind.u64 y_4)) = some (SV.c (Value.int IntKind.u64 y_4)) ∧ some (SV.p (3 : Nat) (0 : Nat)) = some (SV.p (3 : Nat) (0 : Nat)) ∧
  some (SV.c (Value.int IntKind.i64 (IntKind.i64.wrap y_3))) = some (SV.c (Value.int IntKind.i64 (IntKind.i64.wrap y_3))) ∧ some (SV.c (Value.int IntKind.u64 y_3)) = some (SV.c (Value.int IntKind.u64 y_3)) ∧
  some (SV.p (3 : Nat) (0 : Nat)) = some (SV.p (3 : Nat) (0 : Nat)) ∧ some (SV.p (6 : Nat) (0 : Nat)) = some (SV.p (6 : Nat) (0 : Nat)) ∧ some (SV.agg [SV.c (Value.int IntKind.u32 (IntKind.u32.wrap (numAt c.v (0 : Int) (Int.toNat (4 : Int))))), SV.c (Value.int IntKind.u32 (IntKind.u32.wrap (numAt c.v ((0 : Int) + (4 : Int)) (Int.toNat (4 : Int))))), SV.nil, SV.nil]) = some (SV.agg [SV.c (Value.int IntKind.u32 (IntKind.u32.wrap (numAt c.v (0 : Int) (Int.toNat (4 : Int))))), SV.c (Value.int IntKind.u32 (IntKind.u32.wrap (numAt c.v ((0 : Int) + (4 : Int)) (Int.toNat (4 : Int))))), SV.nil, SV.nil]) ∧
  some (SV.c (Value.int IntKind.u32 (IntKind.u32.wrap (numAt c.v ((0 : Int) + (4 : Int)) (Int.toNat (4 : Int)))))) = some (SV.c (Value.int IntKind.u32 (IntKind.u32.wrap (numAt c.v ((0 : Int) + (4 : Int)) (Int.toNat (4 : Int)))))) ∧
  some (SV.c (Value.int IntKind.u64 (numAt c.v ((0 : Int) + (4 : Int)) (Int.toNat (4 : Int))))) = some (SV.c (Value.int IntKind.u64 (numAt c.v ((0 : Int) + (4 : Int)) (Int.toNat (4 : Int))))) ∧
  some (SV.p (3 : Nat) (0 : Nat)) = some (SV.p (3 : Nat) (0 : Nat)) ∧ some (SV.c (Value.int IntKind.u32 (IntKind.u32.wrap (numAt c.v (0 : Int) (Int.toNat (4 : Int)))))) = some (SV.c (Value.int IntKind.u32 (IntKind.u32.wrap (numAt c.v (0 : Int) (Int.toNat (4 : Int)))))) ∧
  some (SV.c (Value.int IntKind.u64 (numAt c.v (0 : Int) (Int.toNat (4 : Int))))) = some (SV.c (Value.int IntKind.u64 (numAt c.v (0 : Int) (Int.toNat (4 : Int))))) ∧
  some (SV.p (3 : Nat) (0 : Nat)) = some (SV.p (3 : Nat) (0 : Nat)) ∧ some (SV.p (3 : Nat) (0 : Nat)) = some (SV.p (3 : Nat) (0 : Nat)) ∧ some (SV.p (3 : Nat) (0 : Nat)) = some (SV.p (3 : Nat) (0 : Nat)) ∧
  some (SV.agg [SV.a (0 : Nat), SV.c (Value.int IntKind.i64 (0 : Int)), SV.b false]) = some (SV.agg [SV.a (0 : Nat), SV.c (Value.int IntKind.i64 (0 : Int)), SV.b false]) ∧
  some (SV.a (0 : Nat)) = some (SV.a (0 : Nat)) ∧ some (SV.p (1 : Nat) (2 : Nat)) = some (SV.p (1 : Nat) (2 : Nat)) ∧ some (SV.c (Value.int IntKind.i64 (0 : Int))) = some (SV.c (Value.int IntKind.i64 (0 : Int))) ∧
  some (SV.p (2 : Nat) (0 : Nat)) = some (SV.p (2 : Nat) (0 : Nat)) ∧ some (SV.p (1 : Nat) (0 : Nat)) = some (SV.p (1 : Nat) (0 : Nat)) ∧ some (SV.agg [SV.c (Value.int IntKind.u8 c.t), SV.c (Value.int IntKind.u8 c.f), SV.a (0 : Nat)]) = some (SV.agg [SV.c (Value.int IntKind.u8 c.t), SV.c (Value.int IntKind.u8 c.f), SV.a (0 : Nat)]) ∧
  True) ∧ some (R.ro (D.ints IntKind.u8 c.v)) = some (R.ro (D.ints IntKind.u8 c.v)) ∧ some (R.ro (D.ints IntKind.u8 c.v)) = some (R.ro (D.ints IntKind.u8 c.v)) ∧
  some (R.ro (D.ints IntKind.u8 c.v)) = some (R.ro (D.ints IntKind.u8 c.v)) ∧ some (R.ro (D.ints IntKind.u8 c.v)) = some (R.ro (D.ints IntKind.u8 c.v)) ∧
  some (R.blk (63 : Nat) [SV.c (Value.int IntKind.u32 (0 : Int)), SV.c (Value.int IntKind.u32 (0 : Int)), SV.nil, SV.nil]) = some (R.blk (63 : Nat) [SV.c (Value.int IntKind.u32 (0 : Int)), SV.c (Value.int IntKind.u32 (0 : Int)), SV.nil, SV.nil]) ∧
  some (R.blk (45 : Nat) [SV.c (Value.int IntKind.u8 c.t), SV.c (Value.int IntKind.u8 c.f), SV.a (0 : Nat)]) = some (R.blk (45 : Nat) [SV.c (Value.int IntKind.u8 c.t), SV.c (Value.int IntKind.u8 c.f), SV.a (0 : Nat)]) ∧
  some (R.ro (D.ints IntKind.u8 c.v)) = some (R.ro (D.ints IntKind.u8 c.v)) ∧ True) ∧ True) ∧ True) ∧ True) ∧ True) ∧ True) (∃ (g0_1 : Nat), g0_1 ≤ (nDup c.v).toNat ∧
  (0 : Int) = (↑g0_1 : Int) ∧ c.v = c.v ∧ (↑((12 : Nat) + (4 : Nat) * g) : Int) = (↑((12 : Nat) + (4 : Nat) * (nGap c.v).toNat + (4 : Nat) * g0_1) : Int) ∧
  decide (c.v.length < (12 : Nat) + (4 : Nat) * g) = decide (c.v.length < (12 : Nat) + (4 : Nat) * (nGap c.v).toNat + (4 : Nat) * g0_1) ∧ SV.c (Value.int IntKind.u32 (IntKind.u32.wrap (numAt c.v (0 : Int) (Int.toNat (4 : Int))))) = SV.c (Value.int IntKind.u32 (IntKind.u32.wrap (numAt c.v (0 : Int) (Int.toNat (4 : Int))))) ∧
  SV.c (Value.int IntKind.u32 (IntKind.u32.wrap (numAt c.v ((0 : Int) + (4 : Int)) (Int.toNat (4 : Int))))) = SV.c (Value.int IntKind.u32 (IntKind.u32.wrap (numAt c.v ((0 : Int) + (4 : Int)) (Int.toNat (4 : Int))))) ∧
  SV.a (10 : Nat) = SV.a (10 : Nat) ∧ dupsG c.v (nGap c.v).toNat g0_1 = [] ∧ (!(Nat.beq (6 : Nat) (3 : Nat) || false) && (!false && true) && true) = true ∧
  ∀ (g_1 : Nat), g_1 ≤ (nDup c.v).toNat → True ∧ sw (decide ((↑g_1 : Int) < IntKind.i64.wrap y_4)) (((∃ (v : List Int), ∃ (i : Int), ∃ (b : Bool), ∃ (k : Nat), [O.ptr (90 : Nat) [O.d (D.ints IntKind.u8 c.v), O.d (D.v (Value.int IntKind.i64 (↑((12 : Nat) + (4 : Nat) * (nGap c.v).toNat + (4 : Nat) * g_1) : Int))), O.d (D.v (Value.bool (decide (c.v.length < (12 : Nat) + (4 : Nat) * (nGap c.v).toNat + (4 : Nat) * g_1))))], O.d (D.v (Value.int IntKind.i64 (4 : Int)))] = [O.ptr (90 : Nat) [O.d (D.ints IntKind.u8 v), O.d (D.v (Value.int IntKind.i64 i)), O.d (D.v (Value.bool b))], O.d (D.v (Value.int IntKind.i64 (↑k : Int)))] ∧
  sm v.length ∧ okB v ∧ (0 : Int) ≤ i ∧ i ≤ (1099511627776 : Int) ∧ (1 : Nat) ≤ k ∧ k ≤ (8 : Nat)) ∧ ((True ∧ ((dupsG c.v (nGap c.v).toNat g_1).length + (1 : Nat)) * Try.prog.types[(31 : Nat)].bytes ≤ (140737488355328 : Nat) ∧
  (True ∧ ∃ (g' : Nat), g' ≤ (nDup c.v).toNat ∧ (nDup c.v).toNat - g' < (nDup c.v).toNat - g_1 ∧ (IntKind.i64.wrap ((↑g_1 : Int) + (1 : Int)) = (↑g' : Int) ∧
  c.v = c.v ∧ (↑((12 : Nat) + (4 : Nat) * (nGap c.v).toNat + (4 : Nat) * g_1) : Int) + (4 : Int) = (↑((12 : Nat) + (4 : Nat) * (nGap c.v).toNat + (4 : Nat) * g') : Int) ∧
  (decide (c.v.length < (12 : Nat) + (4 : Nat) * (nGap c.v).toNat + (4 : Nat) * g_1) || !decide ((getF c.v (↑((12 : Nat) + (4 : Nat) * (nGap c.v).toNat + (4 : Nat) * g_1) : Int) (Int.toNat (4 : Int))).snd = (0 : Int))) = decide (c.v.length < (12 : Nat) + (4 : Nat) * (nGap c.v).toNat + (4 : Nat) * g') ∧
  SV.c (Value.int IntKind.u32 (IntKind.u32.wrap (numAt c.v (0 : Int) (Int.toNat (4 : Int))))) = SV.c (Value.int IntKind.u32 (IntKind.u32.wrap (numAt c.v (0 : Int) (Int.toNat (4 : Int))))) ∧
  SV.c (Value.int IntKind.u32 (IntKind.u32.wrap (numAt c.v ((0 : Int) + (4 : Int)) (Int.toNat (4 : Int))))) = SV.c (Value.int IntKind.u32 (IntKind.u32.wrap (numAt c.v ((0 : Int) + (4 : Int)) (Int.toNat (4 : Int))))) ∧
  SV.a (10 : Nat) = SV.a (10 : Nat) ∧ dupsG c.v (nGap c.v).toNat g_1 ++ [IntKind.u32.wrap (numAt c.v (↑((12 : Nat) + (4 : Nat) * (nGap c.v).toNat + (4 : Nat) * g_1) : Int) (Int.toNat (4 : Int)))] = dupsG c.v (nGap c.v).toNat g' ∧
  (!(Nat.beq (6 : Nat) (3 : Nat) || (Nat.beq (15 : Nat) (3 : Nat) || false)) && (!(Nat.beq (15 : Nat) (6 : Nat) || false) && (!false && true)) && true && ((Nat.ble (11 : Nat) (3 : Nat) || (Nat.beq (3 : Nat) (3 : Nat) || (Nat.beq (6 : Nat) (3 : Nat) || false))) && ((Nat.ble (11 : Nat) (6 : Nat) || (Nat.beq (3 : Nat) (6 : Nat) || (Nat.beq (6 : Nat) (6 : Nat) || false))) && ((Nat.ble (11 : Nat) (15 : Nat) || (Nat.beq (3 : Nat) (15 : Nat) || (Nat.beq (6 : Nat) (15 : Nat) || false))) && true)))) = true) ∧
  (some (SV.c (Value.int IntKind.i64 (IntKind.i64.wrap y_4))) = some (SV.c (Value.int IntKind.i64 (IntKind.i64.wrap y_4))) ∧ some (SV.c (Value.bool (decide ((↑g : Int) < IntKind.i64.wrap y_3)))) = some (SV.c (Value.bool (decide ((↑g : Int) < IntKind.i64.wrap y_3)))) ∧
  some (SV.c (Value.int IntKind.i64 (↑g : Int))) = some (SV.c (Value.int IntKind.i64 (↑g : Int))) ∧ some (SV.c (Value.int IntKind.i64 (IntKind.i64.wrap y_3))) = some (SV.c (Value.int IntKind.i64 (IntKind.i64.wrap y_3))) ∧
  some (SV.c (Value.bool (!decide (c.t = (3 : Int)) || !decide (c.f = (0 : Int)) || (false || !decide (y.snd = (0 : Int)) || !decide (y_1.snd = (0 : Int)) || !decide (y_2.snd = (0 : Int)) || !decide (y_5.snd = (0 : Int))) || decide ((64 : Int) < IntKind.i64.wrap y_3) || decide ((64 : Int) < IntKind.i64.wrap y_4)))) = some (SV.c (Value.bool (!decide (c.t = (3 : Int)) || !decide (c.f = (0 : Int)) || (false || !decide (y.snd = (0 : Int)) || !decide (y_1.snd = (0 : Int)) || !decide (y_2.snd = (0 : Int)) || !decide (y_5.snd = (0 : Int))) || decide ((64 : Int) < IntKind.i64.wrap y_3) || decide ((64 : Int) < IntKind.i64.wrap y_4)))) ∧
  some (SV.w [!(!decide (c.t = (3 : Int)) || !decide (c.f = (0 : Int)) || (false || !decide (y.snd = (0 : Int)) || !decide (y_1.snd = (0 : Int)) || !decide (y_2.snd = (0 : Int)) || !decide (y_5.snd = (0 : Int))) || decide ((64 : Int) < IntKind.i64.wrap y_3))] (SV.c (Value.bool (decide ((64 : Int) < IntKind.i64.wrap y_4))))) = some (SV.w [!(!decide (c.t = (3 : Int)) || !decide (c.f = (0 : Int)) || (false || !decide (y.snd = (0 : Int)) || !decide (y_1.snd = (0 : Int)) || !decide (y_2.snd = (0 : Int)) || !decide (y_5.snd = (0 : Int))) || decide ((64 : Int) < IntKind.i64.wrap y_3))] (SV.c (Value.bool (decide ((64 : Int) < IntKind.i64.wrap y_4))))) ∧
  some (SV.w [!(!decide (c.t = (3 : Int)) || !decide (c.f = (0 : Int)) || (false || !decide (y.snd = (0 : Int)) || !decide (y_1.snd = (0 : Int)) || !decide (y_2.snd = (0 : Int)) || !decide (y_5.snd = (0 : Int))) || decide ((64 : Int) < IntKind.i64.wrap y_3))] (SV.c (Value.int IntKind.i64 (IntKind.i64.wrap y_4)))) = some (SV.w [!(!decide (c.t = (3 : Int)) || !decide (c.f = (0 : Int)) || (false || !decide (y.snd = (0 : Int)) || !decide (y_1.snd = (0 : Int)) || !decide (y_2.snd = (0 : Int)) || !decide (y_5.snd = (0 : Int))) || decide ((64 : Int) < IntKind.i64.wrap y_3))] (SV.c (Value.int IntKind.i64 (IntKind.i64.wrap y_4)))) ∧
  some (SV.c (Value.bool (!decide (c.t = (3 : Int)) || !decide (c.f = (0 : Int)) || (false || !decide (y.snd = (0 : Int)) || !decide (y_1.snd = (0 : Int)) || !decide (y_2.snd = (0 : Int)) || !decide (y_5.snd = (0 : Int))) || decide ((64 : Int) < IntKind.i64.wrap y_3)))) = some (SV.c (Value.bool (!decide (c.t = (3 : Int)) || !decide (c.f = (0 : Int)) || (false || !decide (y.snd = (0 : Int)) || !decide (y_1.snd = (0 : Int)) || !decide (y_2.snd = (0 : Int)) || !decide (y_5.snd = (0 : Int))) || decide ((64 : Int) < IntKind.i64.wrap y_3)))) ∧
  some (SV.c (Value.bool (!decide (c.t = (3 : Int)) || !decide (c.f = (0 : Int)) || (false || !decide (y.snd = (0 : Int)) || !decide (y_1.snd = (0 : Int)) || !decide (y_2.snd = (0 : Int)) || !decide (y_5.snd = (0 : Int))) || decide ((64 : Int) < IntKind.i64.wrap y_3)))) = some (SV.c (Value.bool (!decide (c.t = (3 : Int)) || !decide (c.f = (0 : Int)) || (false || !decide (y.snd = (0 : Int)) || !decide (y_1.snd = (0 : Int)) || !decide (y_2.snd = (0 : Int)) || !decide (y_5.snd = (0 : Int))) || decide ((64 : Int) < IntKind.i64.wrap y_3)))) ∧
  some (SV.w [!(!decide (c.t = (3 : Int)) || !decide (c.f = (0 : Int)) || (false || !decide (y.snd = (0 : Int)) || !decide (y_1.snd = (0 : Int)) || !decide (y_2.snd = (0 : Int)) || !decide (y_5.snd = (0 : Int))))] (SV.c (Value.bool (decide ((64 : Int) < IntKind.i64.wrap y_3))))) = some (SV.w [!(!decide (c.t = (3 : Int)) || !decide (c.f = (0 : Int)) || (false || !decide (y.snd = (0 : Int)) || !decide (y_1.snd = (0 : Int)) || !decide (y_2.snd = (0 : Int)) || !decide (y_5.snd = (0 : Int))))] (SV.c (Value.bool (decide ((64 : Int) < IntKind.i64.wrap y_3))))) ∧
  some (SV.w [!(!decide (c.t = (3 : Int)) || !decide (c.f = (0 : Int)) || (false || !decide (y.snd = (0 : Int)) || !decide (y_1.snd = (0 : Int)) || !decide (y_2.snd = (0 : Int)) || !decide (y_5.snd = (0 : Int))))] (SV.c (Value.int IntKind.i64 (IntKind.i64.wrap y_3)))) = some (SV.w [!(!decide (c.t = (3 : Int)) || !decide (c.f = (0 : Int)) || (false || !decide (y.snd = (0 : Int)) || !decide (y_1.snd = (0 : Int)) || !decide (y_2.snd = (0 : Int)) || !decide (y_5.snd = (0 : Int))))] (SV.c (Value.int IntKind.i64 (IntKind.i64.wrap y_3)))) ∧
  some (SV.c (Value.bool (!decide (c.t = (3 : Int)) || !decide (c.f = (0 : Int)) || (false || !decide (y.snd = (0 : Int)) || !decide (y_1.snd = (0 : Int)) || !decide (y_2.snd = (0 : Int)) || !decide (y_5.snd = (0 : Int)))))) = some (SV.c (Value.bool (!decide (c.t = (3 : Int)) || !decide (c.f = (0 : Int)) || (false || !decide (y.snd = (0 : Int)) || !decide (y_1.snd = (0 : Int)) || !decide (y_2.snd = (0 : Int)) || !decide (y_5.snd = (0 : Int)))))) ∧
  some (SV.c (Value.bool (!decide (c.t = (3 : Int)) || !decide (c.f = (0 : Int)) || (false || !decide (y.snd = (0 : Int)) || !decide (y_1.snd = (0 : Int)) || !decide (y_2.snd = (0 : Int)) || !decide (y_5.snd = (0 : Int)))))) = some (SV.c (Value.bool (!decide (c.t = (3 : Int)) || !decide (c.f = (0 : Int)) || (false || !decide (y.snd = (0 : Int)) || !decide (y_1.snd = (0 : Int)) || !decide (y_2.snd = (0 : Int)) || !decide (y_5.snd = (0 : Int)))))) ∧
  some (SV.w [!(!decide (c.t = (3 : Int)) || !decide (c.f = (0 : Int)))] (SV.c (Value.bool (false || !decide (y.snd = (0 : Int)) || !decide (y_1.snd = (0 : Int)) || !decide (y_2.snd = (0 : Int)) || !decide (y_5.snd = (0 : Int)))))) = some (SV.w [!(!decide (c.t = (3 : Int)) || !decide (c.f = (0 : Int)))] (SV.c (Value.bool (false || !decide (y.snd = (0 : Int)) || !decide (y_1.snd = (0 : Int)) || !decide (y_2.snd = (0 : Int)) || !decide (y_5.snd = (0 : Int)))))) ∧
  some (SV.w [!(!decide (c.t = (3 : Int)) || !decide (c.f = (0 : Int)))] (SV.p (3 : Nat) (2 : Nat))) = some (SV.w [!(!decide (c.t = (3 : Int)) || !decide (c.f = (0 : Int)))] (SV.p (3 : Nat) (2 : Nat))) ∧
  some (SV.w [!(!decide (c.t = (3 : Int)) || !decide (c.f = (0 : Int)))] (SV.p (3 : Nat) (0 : Nat))) = some (SV.w [!(!decide (c.t = (3 : Int)) || !decide (c.f = (0 : Int)))] (SV.p (3 : Nat) (0 : Nat))) ∧
  some (SV.w [!(!decide (c.t = (3 : Int)) || !decide (c.f = (0 : Int)))] (SV.p (3 : Nat) (0 : Nat))) = some (SV.w [!(!decide (c.t = (3 : Int)) || !decide (c.f = (0 : Int)))] (SV.p (3 : Nat) (0 : Nat))) ∧
  some (SV.c (Value.bool (!decide (c.t = (3 : Int)) || !decide (c.f = (0 : Int))))) = some (SV.c (Value.bool (!decide (c.t = (3 : Int)) || !decide (c.f = (0 : Int))))) ∧
  some (SV.c (Value.bool (!decide (c.t = (3 : Int)) || !decide (c.f = (0 : Int))))) = some (SV.c (Value.bool (!decide (c.t = (3 : Int)) || !decide (c.f = (0 : Int))))) ∧
  some (SV.w [!!decide (c.t = (3 : Int))] (SV.c (Value.bool !decide (c.f = (0 : Int))))) = some (SV.w [!!decide (c.t = (3 : Int))] (SV.c (Value.bool !decide (c.f = (0 : Int))))) ∧
  some (SV.w [!!decide (c.t = (3 : Int))] (SV.c (Value.int IntKind.u8 c.f))) = some (SV.w [!!decide (c.t = (3 : Int))] (SV.c (Value.int IntKind.u8 c.f))) ∧
  some (SV.w [!!decide (c.t = (3 : Int))] (SV.p (1 : Nat) (1 : Nat))) = some (SV.w [!!decide (c.t = (3 : Int))] (SV.p (1 : Nat) (1 : Nat))) ∧ some (SV.c (Value.bool !decide (c.t = (3 : Int)))) = some (SV.c (Value.bool !decide (c.t = (3 : Int)))) ∧
  some (SV.c (Value.bool !decide (c.t = (3 : Int)))) = some (SV.c (Value.bool !decide (c.t = (3 : Int)))) ∧ some (SV.c (Value.int IntKind.u8 c.t)) = some (SV.c (Value.int IntKind.u8 c.t)) ∧
  some (SV.p (1 : Nat) (0 : Nat)) = some (SV.p (1 : Nat) (0 : Nat)) ∧ some (SV.c (Value.int IntKind.i64 (IntKind.i64.wrap y_4))) = some (SV.c (Value.int IntKind.i64 (IntKind.i64.wrap y_4))) ∧
  some (SV.c (Value.int IntKind.i64 (IntKind.i64.wrap y_3))) = some (SV.c (Value.int IntKind.i64 (IntKind.i64.wrap y_3))) ∧ some (SV.c (Value.int IntKind.i64 (IntKind.i64.wrap y_4))) = some (SV.c (Value.int IntKind.i64 (IntKind.i64.wrap y_4))) ∧
  some (SV.c (Value.int IntKind.u64 y_4)) = some (SV.c (Value.int IntKind.u64 y_4)) ∧ some (SV.p (3 : Nat) (0 : Nat)) = some (SV.p (3 : Nat) (0 : Nat)) ∧
  some (SV.c (Value.int IntKind.i64 (IntKind.i64.wrap y_3))) = some (SV.c (Value.int IntKind.i64 (IntKind.i64.wrap y_3))) ∧ some (SV.c (Value.int IntKind.u64 y_3)) = some (SV.c (Value.int IntKind.u64 y_3)) ∧
  some (SV.p (3 : Nat) (0 : Nat)) = some (SV.p (3 : Nat) (0 : Nat)) ∧ some (SV.p (6 : Nat) (0 : Nat)) = some (SV.p (6 : Nat) (0 : Nat)) ∧ some (SV.agg [SV.c (Value.int IntKind.u32 (IntKind.u32.wrap (numAt c.v (0 : Int) (Int.toNat (4 : Int))))), SV.c (Value.int IntKind.u32 (IntKind.u32.wrap (numAt c.v ((0 : Int) + (4 : Int)) (Int.toNat (4 : Int))))), SV.nil, SV.nil]) = some (SV.agg [SV.c (Value.int IntKind.u32 (IntKind.u32.wrap (numAt c.v (0 : Int) (Int.toNat (4 : Int))))), SV.c (Value.int IntKind.u32 (IntKind.u32.wrap (numAt c.v ((0 : Int) + (4 : Int)) (Int.toNat (4 : Int))))), SV.nil, SV.nil]) ∧
  some (SV.c (Value.int IntKind.u32 (IntKind.u32.wrap (numAt c.v ((0 : Int) + (4 : Int)) (Int.toNat (4 : Int)))))) = some (SV.c (Value.int IntKind.u32 (IntKind.u32.wrap (numAt c.v ((0 : Int) + (4 : Int)) (Int.toNat (4 : Int)))))) ∧
  some (SV.c (Value.int IntKind.u64 (numAt c.v ((0 : Int) + (4 : Int)) (Int.toNat (4 : Int))))) = some (SV.c (Value.int IntKind.u64 (numAt c.v ((0 : Int) + (4 : Int)) (Int.toNat (4 : Int))))) ∧
  some (SV.p (3 : Nat) (0 : Nat)) = some (SV.p (3 : Nat) (0 : Nat)) ∧ some (SV.c (Value.int IntKind.u32 (IntKind.u32.wrap (numAt c.v (0 : Int) (Int.toNat (4 : Int)))))) = some (SV.c (Value.int IntKind.u32 (IntKind.u32.wrap (numAt c.v (0 : Int) (Int.toNat (4 : Int)))))) ∧
  some (SV.c (Value.int IntKind.u64 (numAt c.v (0 : Int) (Int.toNat (4 : Int))))) = some (SV.c (Value.int IntKind.u64 (numAt c.v (0 : Int) (Int.toNat (4 : Int))))) ∧
  some (SV.p (3 : Nat) (0 : Nat)) = some (SV.p (3 : Nat) (0 : Nat)) ∧ some (SV.p (3 : Nat) (0 : Nat)) = some (SV.p (3 : Nat) (0 : Nat)) ∧ some (SV.p (3 : Nat) (0 : Nat)) = some (SV.p (3 : Nat) (0 : Nat)) ∧
  some (SV.agg [SV.a (0 : Nat), SV.c (Value.int IntKind.i64 (0 : Int)), SV.b false]) = some (SV.agg [SV.a (0 : Nat), SV.c (Value.int IntKind.i64 (0 : Int)), SV.b false]) ∧
  some (SV.a (0 : Nat)) = some (SV.a (0 : Nat)) ∧ some (SV.p (1 : Nat) (2 : Nat)) = some (SV.p (1 : Nat) (2 : Nat)) ∧ some (SV.c (Value.int IntKind.i64 (0 : Int))) = some (SV.c (Value.int IntKind.i64 (0 : Int))) ∧
  some (SV.p (2 : Nat) (0 : Nat)) = some (SV.p (2 : Nat) (0 : Nat)) ∧ some (SV.p (1 : Nat) (0 : Nat)) = some (SV.p (1 : Nat) (0 : Nat)) ∧ some (SV.agg [SV.c (Value.int IntKind.u8 c.t), SV.c (Value.int IntKind.u8 c.f), SV.a (0 : Nat)]) = some (SV.agg [SV.c (Value.int IntKind.u8 c.t), SV.c (Value.int IntKind.u8 c.f), SV.a (0 : Nat)]) ∧
  True) ∧ some (R.own (96 : Nat) (D.recs (2 : Nat) (gapsG c.v g).length (gapCell (gapsG c.v g)))) = some (R.own (96 : Nat) (D.recs (2 : Nat) (gapsG c.v g).length (gapCell (gapsG c.v g)))) ∧
  some (R.ro (D.ints IntKind.u8 c.v)) = some (R.ro (D.ints IntKind.u8 c.v)) ∧ some (R.ro (D.ints IntKind.u8 c.v)) = some (R.ro (D.ints IntKind.u8 c.v)) ∧
  some (R.ro (D.ints IntKind.u8 c.v)) = some (R.ro (D.ints IntKind.u8 c.v)) ∧ some (R.ro (D.ints IntKind.u8 c.v)) = some (R.ro (D.ints IntKind.u8 c.v)) ∧
  some (R.ro (D.ints IntKind.u8 c.v)) = some (R.ro (D.ints IntKind.u8 c.v)) ∧ some (R.blk (63 : Nat) [SV.c (Value.int IntKind.u32 (0 : Int)), SV.c (Value.int IntKind.u32 (0 : Int)), SV.nil, SV.nil]) = some (R.blk (63 : Nat) [SV.c (Value.int IntKind.u32 (0 : Int)), SV.c (Value.int IntKind.u32 (0 : Int)), SV.nil, SV.nil]) ∧
  some (R.blk (45 : Nat) [SV.c (Value.int IntKind.u8 c.t), SV.c (Value.int IntKind.u8 c.f), SV.a (0 : Nat)]) = some (R.blk (45 : Nat) [SV.c (Value.int IntKind.u8 c.t), SV.c (Value.int IntKind.u8 c.f), SV.a (0 : Nat)]) ∧
  some (R.ro (D.ints IntKind.u8 c.v)) = some (R.ro (D.ints IntKind.u8 c.v)) ∧ True) ∧ True) ∧ True) ∧ True) ∧ True) ((∃ (v : List Int), ∃ (i : Int), ∃ (b : Bool), [O.ptr (90 : Nat) [O.d (D.ints IntKind.u8 c.v), O.d (D.v (Value.int IntKind.i64 (↑((12 : Nat) + (4 : Nat) * (nGap c.v).toNat + (4 : Nat) * g_1) : Int))), O.d (D.v (Value.bool (decide (c.v.length < (12 : Nat) + (4 : Nat) * (nGap c.v).toNat + (4 : Nat) * g_1))))]] = [O.ptr (90 : Nat) [O.d (D.ints IntKind.u8 v), O.d (D.v (Value.int IntKind.i64 i)), O.d (D.v (Value.bool b))]] ∧
  sm v.length) ∧ sw (!(!decide (c.v.length < (12 : Nat) + (4 : Nat) * (nGap c.v).toNat + (4 : Nat) * g_1) && decide ((↑((12 : Nat) + (4 : Nat) * (nGap c.v).toNat + (4 : Nat) * g_1) : Int) = (↑c.v.length : Int)))) ((0 : Int) = (toHea (ChR.mk c.t c.f c.v)).fst.cum ∧
  (0 : Int) = (toHea (ChR.mk c.t c.f c.v)).fst.win ∧ (toHea (ChR.mk c.t c.f c.v)).fst.gaps.length = (0 : Nat) ∧ (toHea (ChR.mk c.t c.f c.v)).fst.dups = [] ∧
  (2 : Int) = (toHea (ChR.mk c.t c.f c.v)).snd ∧ (true && true) = true) ((∃ (l : List (Int × Int)), [O.d (D.recs (2 : Nat) (gapsG c.v g).length (gapCell (gapsG c.v g)))] = [O.d (D.recs (2 : Nat) l.length (gapCell l))] ∧
  okGs l) ∧ sw (!apartF (gapsOf (D.recs (2 : Nat) (gapsG c.v g).length (gapCell (gapsG c.v g))))) ((0 : Int) = (toHea (ChR.mk c.t c.f c.v)).fst.cum ∧ (0 : Int) = (toHea (ChR.mk c.t c.f c.v)).fst.win ∧
  (toHea (ChR.mk c.t c.f c.v)).fst.gaps.length = (0 : Nat) ∧ (toHea (ChR.mk c.t c.f c.v)).fst.dups = [] ∧ (2 : Int) = (toHea (ChR.mk c.t c.f c.v)).snd ∧ (true && true) = true) (IntKind.u32.wrap (numAt c.v (0 : Int) (Int.toNat (4 : Int))) = (toHea (ChR.mk c.t c.f c.v)).fst.cum ∧
  IntKind.u32.wrap (numAt c.v ((0 : Int) + (4 : Int)) (Int.toNat (4 : Int))) = (toHea (ChR.mk c.t c.f c.v)).fst.win ∧ ((gapsG c.v g).length = (toHea (ChR.mk c.t c.f c.v)).fst.gaps.length ∧
  ∀ (i : Nat), i < (gapsG c.v g).length → ∀ (j : Nat), j < (2 : Nat) → gapCell (gapsG c.v g) i j = gapCell (toHea (ChR.mk c.t c.f c.v)).fst.gaps i j) ∧ dupsG c.v (nGap c.v).toNat g_1 = (toHea (ChR.mk c.t c.f c.v)).fst.dups ∧
  (0 : Int) = (toHea (ChR.mk c.t c.f c.v)).snd ∧ (!(Nat.beq (12 : Nat) (10 : Nat) || false) && (!false && true) && true) = true))))) := by
  simp only [↓sw_iff, ↓Bool.and_eq_true, ↓Bool.and_eq_false_iff, ↓decide_eq_true_eq, ↓decide_eq_false_iff_not, ↓Bool.not_eq_true', ↓Bool.not_eq_false', true_and, and_true, implies_true, Bool.or_false, Bool.false_or, Nat.ble, Nat.beq, toNat2, toNat4, ch_eta, Int.reduceAdd, gapsOf_gaps, size96, bytes96, bytes31]
  intro c h1 h2 h3 h4
  obtain ⟨⟨G0, G1⟩, ⟨D0, D1⟩⟩ := n_rng h1
  have h2' := h2
  unfold sm at h2'
  have eG : IntKind.i64.wrap (numAt c.v 8 2) = nGap c.v := wrap_i64_id (n := nGap c.v) (by omega) (by omega)
  have eD : IntKind.i64.wrap (numAt c.v 10 2) = nDup c.v := wrap_i64_id (n := nDup c.v) (by omega) (by omega)
  simp only [hea_bad, u32_num h1, u16_num h1]
  refine ⟨⟨c.v, _, _, 4, rfl, h2, h1, by decide, by decide, by decide, by decide⟩, ⟨c.v, _, _, 4, rfl, h2, h1, by decide, by decide, by decide, by decide⟩, ⟨c.v, _, _, 2, rfl, h2, h1, by decide, by decide, by decide, by decide⟩, ⟨c.v, _, _, 2, rfl, h2, h1, by decide, by decide, by decide, by decide⟩, fun e => herr_leaf (toHea_e1 (bad_t eG eD e)), fun e => ?_⟩
  have hb := bad_f eG eD e
  have hb' := hb
  unfold badHea at hb'
  refine ⟨0, Nat.zero_le _, rfl, rfl, rfl, gapsG_len _ 0, ?_⟩
  intro g hg
  have gl := gapsG_len c.v g
  refine ⟨fun hlt => ?_, fun hge => ?_⟩
  · rw [eG] at hlt
    refine ⟨⟨c.v, _, _, 2, rfl, h2, h1, by omega, by omega, by decide, by decide⟩, ⟨c.v, _, _, 2, rfl, h2, h1, by omega, by omega, by decide, by decide⟩, by omega, g + 1, by omega, by omega, by rw [wrap_i64_id (by omega) (by omega)]; rfl, by omega, gap_bad c.v g, by rw [gapsG_len, gapsG_len], ?_⟩
    intro i hi j hj
    rw [gapsG_succ, show (((12 + 4 * g : Nat) : Int) + 2) = ((14 + 4 * g : Nat) : Int) by omega]
    exact app_gap _ _ _ hi hj
  · rw [eG] at hge
    obtain rfl : g = (nGap c.v).toNat := by omega
    refine ⟨0, Nat.zero_le _, rfl, by omega, by simp, rfl, ?_⟩
    intro d hd
    have dl := dupsG_len c.v (nGap c.v).toNat d
    refine ⟨fun hlt => ?_, fun hge' => ?_⟩
    · rw [eD] at hlt
      refine ⟨⟨c.v, _, _, 4, rfl, h2, h1, by omega, by omega, by decide, by decide⟩, by omega, d + 1, by omega, by omega, by rw [wrap_i64_id (by omega) (by omega)]; rfl, by omega, by rw [dup_bad]; congr 1, (dupsG_succ _ _ _).symm⟩
    · rw [eD] at hge'
      obtain rfl : d = (nDup c.v).toNat := by omega
      refine ⟨⟨c.v, _, _, rfl, h2⟩, fun e2 => herr_leaf (toHea_e2 (.inl (by omega))), fun e2 => ⟨⟨_, rfl, gapsG_ok h1 (by omega)⟩, fun e3 => herr_leaf (toHea_e2 (.inr e3)), fun e3 => ?_⟩⟩
      rw [toHea_e3 hb (by omega) e3]
      exact ⟨rfl, rfl, ⟨rfl, fun _ _ _ _ => rfl⟩, rfl, rfl⟩
set_option maxRecDepth 100000 in
theorem ok36 : FnIs Try.prog 36 toHeaC := by
  refine fnIs (C := (ctrs c26)) (by kernel_rfl) c26_ok Try.func36 (code := code36) (by kernel_rfl) (by kernel_rfl) ?_
  rintro a ⟨c, rfl, h1, h2, h3, h4⟩
  exact ⟨anns [(7, readG c 49 11 5), (11, readD c 65 11 5)] [14], kcast (vc36 c h1 h2 h3 h4) (by kernel_rfl)⟩

noncomputable def code38 : Code := match Try.f38.body with | some c => c | none => .skip
set_option maxHeartbeats 4000000 in
theorem vc38 : ∀ (c : ChR), let y := partF c.v (8 : Int) (↑(Int.toNat (2 : Int)) : Int); let y_1 := partF c.v (10 : Int) (↑(Int.toNat (2 : Int)) : Int); okB c.v → sm c.v.length →
  (0 : Int) ≤ c.f → c.f ≤ (255 : Int) → True ∧ sw (!!decide (c.t = (3 : Int))) (SV.a (0 : Nat) = SV.a (0 : Nat)) True ∧ sw (!!decide (c.t = (3 : Int))) ([!!decide (c.t = (3 : Int))] = [!!decide (c.t = (3 : Int))] ∧
  SV.c (Value.int IntKind.i64 (↑c.v.length : Int)) = SV.c (Value.int IntKind.i64 (↑c.v.length : Int))) True ∧ sw (!!decide (c.t = (3 : Int))) ([!!decide (c.t = (3 : Int))] = [!!decide (c.t = (3 : Int))] ∧
  True ∧ SV.c (Value.bool (decide ((↑c.v.length : Int) < (12 : Int)))) = SV.c (Value.bool (decide ((↑c.v.length : Int) < (12 : Int))))) True ∧ [!!decide (c.t = (3 : Int))] = [!!decide (c.t = (3 : Int))] ∧
  sw (!decide (c.t = (3 : Int)) || decide ((↑c.v.length : Int) < (12 : Int))) ((0 : Int) = (toHea (ChR.mk c.t c.f c.v)).fst.cum ∧ (0 : Int) = (toHea (ChR.mk c.t c.f c.v)).fst.win ∧
  (toHea (ChR.mk c.t c.f c.v)).fst.gaps.length = (0 : Nat) ∧ (toHea (ChR.mk c.t c.f c.v)).fst.dups = [] ∧ (2 : Int) = (toHea (ChR.mk c.t c.f c.v)).snd ∧ (true && true) = true) ((∃ (b : List Int), ∃ (i : Int), ∃ (k : Nat), [O.d (D.ints IntKind.u8 c.v), O.d (D.v (Value.int IntKind.i64 (8 : Int))), O.d (D.v (Value.int IntKind.i64 (2 : Int)))] = [O.d (D.ints IntKind.u8 b), O.d (D.v (Value.int IntKind.i64 i)), O.d (D.v (Value.int IntKind.i64 (↑k : Int)))] ∧
  sm b.length ∧ okB b ∧ okI i ∧ (1 : Nat) ≤ k ∧ k ≤ (7 : Nat)) ∧ (∃ (b : List Int), ∃ (i : Int), ∃ (k : Nat), [O.d (D.ints IntKind.u8 c.v), O.d (D.v (Value.int IntKind.i64 (10 : Int))), O.d (D.v (Value.int IntKind.i64 (2 : Int)))] = [O.d (D.ints IntKind.u8 b), O.d (D.v (Value.int IntKind.i64 i)), O.d (D.v (Value.int IntKind.i64 (↑k : Int)))] ∧
  sm b.length ∧ okB b ∧ okI i ∧ (1 : Nat) ≤ k ∧ k ≤ (7 : Nat)) ∧ True ∧ sw (!decide ((64 : Int) < valF y.fst)) (SV.c (Value.int IntKind.i64 (valF y_1.fst)) = SV.c (Value.int IntKind.i64 (valF y_1.fst))) True ∧
  sw (!decide ((64 : Int) < valF y.fst)) ([!decide ((64 : Int) < valF y.fst)] = [!decide ((64 : Int) < valF y.fst)] ∧ True ∧ SV.c (Value.bool (decide ((64 : Int) < valF y_1.fst))) = SV.c (Value.bool (decide ((64 : Int) < valF y_1.fst)))) True ∧
  [!decide ((64 : Int) < valF y.fst)] = [!decide ((64 : Int) < valF y.fst)] ∧ sw (!(decide ((64 : Int) < valF y.fst) || decide ((64 : Int) < valF y_1.fst))) (SV.a (0 : Nat) = SV.a (0 : Nat)) True ∧
  sw (!(decide ((64 : Int) < valF y.fst) || decide ((64 : Int) < valF y_1.fst))) ([!(decide ((64 : Int) < valF y.fst) || decide ((64 : Int) < valF y_1.fst))] = [!(decide ((64 : Int) < valF y.fst) || decide ((64 : Int) < valF y_1.fst))] ∧
  SV.c (Value.int IntKind.i64 (↑c.v.length : Int)) = SV.c (Value.int IntKind.i64 (↑c.v.length : Int))) True ∧ sw (!(decide ((64 : Int) < valF y.fst) || decide ((64 : Int) < valF y_1.fst))) (SV.c (Value.int IntKind.i64 (valF y.fst)) = SV.c (Value.int IntKind.i64 (valF y.fst))) True ∧
  sw (!(decide ((64 : Int) < valF y.fst) || decide ((64 : Int) < valF y_1.fst))) ([!(decide ((64 : Int) < valF y.fst) || decide ((64 : Int) < valF y_1.fst))] = [!(decide ((64 : Int) < valF y.fst) || decide ((64 : Int) < valF y_1.fst))] ∧
  True ∧ SV.c (Value.int IntKind.i64 (IntKind.i64.wrap ((4 : Int) * valF y.fst))) = SV.c (Value.int IntKind.i64 (IntKind.i64.wrap ((4 : Int) * valF y.fst)))) True ∧
  sw (!(decide ((64 : Int) < valF y.fst) || decide ((64 : Int) < valF y_1.fst))) ([!(decide ((64 : Int) < valF y.fst) || decide ((64 : Int) < valF y_1.fst))] = [!(decide ((64 : Int) < valF y.fst) || decide ((64 : Int) < valF y_1.fst))] ∧
  True ∧ SV.c (Value.int IntKind.i64 (IntKind.i64.wrap ((12 : Int) + IntKind.i64.wrap ((4 : Int) * valF y.fst)))) = SV.c (Value.int IntKind.i64 (IntKind.i64.wrap ((12 : Int) + IntKind.i64.wrap ((4 : Int) * valF y.fst))))) True ∧
  sw (!(decide ((64 : Int) < valF y.fst) || decide ((64 : Int) < valF y_1.fst))) (SV.c (Value.int IntKind.i64 (valF y_1.fst)) = SV.c (Value.int IntKind.i64 (valF y_1.fst))) True ∧
  sw (!(decide ((64 : Int) < valF y.fst) || decide ((64 : Int) < valF y_1.fst))) ([!(decide ((64 : Int) < valF y.fst) || decide ((64 : Int) < valF y_1.fst))] = [!(decide ((64 : Int) < valF y.fst) || decide ((64 : Int) < valF y_1.fst))] ∧
  True ∧ SV.c (Value.int IntKind.i64 (IntKind.i64.wrap ((4 : Int) * valF y_1.fst))) = SV.c (Value.int IntKind.i64 (IntKind.i64.wrap ((4 : Int) * valF y_1.fst)))) True ∧
  sw (!(decide ((64 : Int) < valF y.fst) || decide ((64 : Int) < valF y_1.fst))) ([!(decide ((64 : Int) < valF y.fst) || decide ((64 : Int) < valF y_1.fst))] = [!(decide ((64 : Int) < valF y.fst) || decide ((64 : Int) < valF y_1.fst))] ∧
  [!(decide ((64 : Int) < valF y.fst) || decide ((64 : Int) < valF y_1.fst))] = [!(decide ((64 : Int) < valF y.fst) || decide ((64 : Int) < valF y_1.fst))] ∧
  True ∧ SV.c (Value.int IntKind.i64 (IntKind.i64.wrap (IntKind.i64.wrap ((12 : Int) + IntKind.i64.wrap ((4 : Int) * valF y.fst)) + IntKind.i64.wrap ((4 : Int) * valF y_1.fst)))) = SV.c (Value.int IntKind.i64 (IntKind.i64.wrap (IntKind.i64.wrap ((12 : Int) + IntKind.i64.wrap ((4 : Int) * valF y.fst)) + IntKind.i64.wrap ((4 : Int) * valF y_1.fst))))) True ∧
  sw (!(decide ((64 : Int) < valF y.fst) || decide ((64 : Int) < valF y_1.fst))) ([!(decide ((64 : Int) < valF y.fst) || decide ((64 : Int) < valF y_1.fst))] = [!(decide ((64 : Int) < valF y.fst) || decide ((64 : Int) < valF y_1.fst))] ∧
  [!(decide ((64 : Int) < valF y.fst) || decide ((64 : Int) < valF y_1.fst))] = [!(decide ((64 : Int) < valF y.fst) || decide ((64 : Int) < valF y_1.fst))] ∧
  True ∧ SV.c (Value.bool !decide ((↑c.v.length : Int) = IntKind.i64.wrap (IntKind.i64.wrap ((12 : Int) + IntKind.i64.wrap ((4 : Int) * valF y.fst)) + IntKind.i64.wrap ((4 : Int) * valF y_1.fst)))) = SV.c (Value.bool !decide ((↑c.v.length : Int) = IntKind.i64.wrap (IntKind.i64.wrap ((12 : Int) + IntKind.i64.wrap ((4 : Int) * valF y.fst)) + IntKind.i64.wrap ((4 : Int) * valF y_1.fst))))) True ∧
  [!(decide ((64 : Int) < valF y.fst) || decide ((64 : Int) < valF y_1.fst))] = [!(decide ((64 : Int) < valF y.fst) || decide ((64 : Int) < valF y_1.fst))] ∧
  sw (decide ((64 : Int) < valF y.fst) || decide ((64 : Int) < valF y_1.fst) || !decide ((↑c.v.length : Int) = IntKind.i64.wrap (IntKind.i64.wrap ((12 : Int) + IntKind.i64.wrap ((4 : Int) * valF y.fst)) + IntKind.i64.wrap ((4 : Int) * valF y_1.fst)))) ((0 : Int) = (toHea (ChR.mk c.t c.f c.v)).fst.cum ∧
  (0 : Int) = (toHea (ChR.mk c.t c.f c.v)).fst.win ∧ (toHea (ChR.mk c.t c.f c.v)).fst.gaps.length = (0 : Nat) ∧ (toHea (ChR.mk c.t c.f c.v)).fst.dups = [] ∧
  (2 : Int) = (toHea (ChR.mk c.t c.f c.v)).snd ∧ (true && true) = true) ((∃ (b : List Int), ∃ (i : Int), ∃ (k : Nat), [O.d (D.ints IntKind.u8 c.v), O.d (D.v (Value.int IntKind.i64 (0 : Int))), O.d (D.v (Value.int IntKind.i64 (4 : Int)))] = [O.d (D.ints IntKind.u8 b), O.d (D.v (Value.int IntKind.i64 i)), O.d (D.v (Value.int IntKind.i64 (↑k : Int)))] ∧
  sm b.length ∧ okB b ∧ okI i ∧ (1 : Nat) ≤ k ∧ k ≤ (7 : Nat)) ∧ (∃ (b : List Int), ∃ (i : Int), ∃ (k : Nat), [O.d (D.ints IntKind.u8 c.v), O.d (D.v (Value.int IntKind.i64 (4 : Int))), O.d (D.v (Value.int IntKind.i64 (4 : Int)))] = [O.d (D.ints IntKind.u8 b), O.d (D.v (Value.int IntKind.i64 i)), O.d (D.v (Value.int IntKind.i64 (↑k : Int)))] ∧
  sm b.length ∧ okB b ∧ okI i ∧ (1 : Nat) ≤ k ∧ k ≤ (7 : Nat)) ∧ ∃ (g0 : Nat), g0 ≤ (nGap c.v).toNat ∧ (0 : Int) = (↑g0 : Int) ∧ SV.c (Value.int IntKind.u32 (IntKind.u32.wrap (valF (partF c.v (0 : Int) (↑(Int.toNat (4 : Int)) : Int)).fst))) = SV.c (Value.int IntKind.u32 (IntKind.u32.wrap (valF (partF c.v (0 : Int) (↑(Int.toNat (4 : Int)) : Int)).fst))) ∧
  SV.c (Value.int IntKind.u32 (IntKind.u32.wrap (valF (partF c.v (4 : Int) (↑(Int.toNat (4 : Int)) : Int)).fst))) = SV.c (Value.int IntKind.u32 (IntKind.u32.wrap (valF (partF c.v (4 : Int) (↑(Int.toNat (4 : Int)) : Int)).fst))) ∧
  (gapsG c.v g0).length = (0 : Nat) ∧ SV.nil = SV.nil ∧ (!false && true && true) = true ∧ ∀ (g : Nat), g ≤ (nGap c.v).toNat → True ∧ sw (decide ((↑g : Int) < valF y.fst)) (True ∧
  True ∧ True ∧ True ∧ ((∃ (b : List Int), ∃ (i : Int), ∃ (k : Nat), [O.d (D.ints IntKind.u8 c.v), O.d (D.v (Value.int IntKind.i64 (IntKind.i64.wrap ((12 : Int) + IntKind.i64.wrap ((4 : Int) * (↑g : Int)))))), O.d (D.v (Value.int IntKind.i64 (2 : Int)))] = [O.d (D.ints IntKind.u8 b), O.d (D.v (Value.int IntKind.i64 i)), O.d (D.v (Value.int IntKind.i64 (↑k : Int)))] ∧
  sm b.length ∧ okB b ∧ okI i ∧ (1 : Nat) ≤ k ∧ k ≤ (7 : Nat)) ∧ ((∃ (b : List Int), ∃ (i : Int), ∃ (k : Nat), [O.d (D.ints IntKind.u8 c.v), O.d (D.v (Value.int IntKind.i64 (IntKind.i64.wrap ((14 : Int) + IntKind.i64.wrap ((4 : Int) * (↑g : Int)))))), O.d (D.v (Value.int IntKind.i64 (2 : Int)))] = [O.d (D.ints IntKind.u8 b), O.d (D.v (Value.int IntKind.i64 i)), O.d (D.v (Value.int IntKind.i64 (↑k : Int)))] ∧
  sm b.length ∧ okB b ∧ okI i ∧ (1 : Nat) ≤ k ∧ k ≤ (7 : Nat)) ∧ ((True ∧ ((gapsG c.v g).length + (1 : Nat)) * Try.prog.types[(96 : Nat)].bytes ≤ (140737488355328 : Nat) ∧
  (True ∧ ∃ (g' : Nat), g' ≤ (nGap c.v).toNat ∧ (nGap c.v).toNat - g' < (nGap c.v).toNat - g ∧ (IntKind.i64.wrap ((↑g : Int) + (1 : Int)) = (↑g' : Int) ∧
  SV.c (Value.int IntKind.u32 (IntKind.u32.wrap (valF (partF c.v (0 : Int) (↑(Int.toNat (4 : Int)) : Int)).fst))) = SV.c (Value.int IntKind.u32 (IntKind.u32.wrap (valF (partF c.v (0 : Int) (↑(Int.toNat (4 : Int)) : Int)).fst))) ∧
  SV.c (Value.int IntKind.u32 (IntKind.u32.wrap (valF (partF c.v (4 : Int) (↑(Int.toNat (4 : Int)) : Int)).fst))) = SV.c (Value.int IntKind.u32 (IntKind.u32.wrap (valF (partF c.v (4 : Int) (↑(Int.toNat (4 : Int)) : Int)).fst))) ∧
  ((gapsG c.v g).length + (1 : Nat) = (gapsG c.v g').length ∧ ∀ (i : Nat), i < (gapsG c.v g).length + (1 : Nat) → ∀ (j : Nat), j < (2 : Nat) → (bif i.blt (gapsG c.v g).length then gapCell (gapsG c.v g) i j else [D.v (Value.int IntKind.u16 (IntKind.u16.wrap (valF (partF c.v (IntKind.i64.wrap ((12 : Int) + IntKind.i64.wrap ((4 : Int) * (↑g : Int)))) (↑(Int.toNat (2 : Int)) : Int)).fst))), D.v (Value.int IntKind.u16 (IntKind.u16.wrap (valF (partF c.v (IntKind.i64.wrap ((14 : Int) + IntKind.i64.wrap ((4 : Int) * (↑g : Int)))) (↑(Int.toNat (2 : Int)) : Int)).fst)))].getD ((i - (gapsG c.v g).length) * Try.prog.types[(96 : Nat)].size + j) (D.v undef)) = gapCell (gapsG c.v g') i j) ∧
  SV.nil = SV.nil ∧ (!(Nat.beq (6 : Nat) (3 : Nat) || false) && (!false && true) && true && ((Nat.ble (4 : Nat) (3 : Nat) || (Nat.beq (3 : Nat) (3 : Nat) || false)) && ((Nat.ble (4 : Nat) (6 : Nat) || (Nat.beq (3 : Nat) (6 : Nat) || false)) && true))) = true) ∧
  (some (SV.p (3 : Nat) (0 : Nat)) = some (SV.p (3 : Nat) (0 : Nat)) ∧ some (SV.agg [SV.c (Value.int IntKind.u32 (IntKind.u32.wrap (valF (partF c.v (0 : Int) (↑(Int.toNat (4 : Int)) : Int)).fst))), SV.c (Value.int IntKind.u32 (IntKind.u32.wrap (valF (partF c.v (4 : Int) (↑(Int.toNat (4 : Int)) : Int)).fst))), SV.nil, SV.nil]) = some (SV.agg [SV.c (Value.int IntKind.u32 (IntKind.u32.wrap (valF (partF c.v (0 : Int) (↑(Int.toNat (4 : Int)) : Int)).fst))), SV.c (Value.int IntKind.u32 (IntKind.u32.wrap (valF (partF c.v (4 : Int) (↑(Int.toNat (4 : Int)) : Int)).fst))), SV.nil, SV.nil]) ∧
  some (SV.c (Value.int IntKind.u32 (IntKind.u32.wrap (valF (partF c.v (4 : Int) (↑(Int.toNat (4 : Int)) : Int)).fst)))) = some (SV.c (Value.int IntKind.u32 (IntKind.u32.wrap (valF (partF c.v (4 : Int) (↑(Int.toNat (4 : Int)) : Int)).fst)))) ∧
  some (SV.c (Value.int IntKind.i64 (valF (partF c.v (4 : Int) (↑(Int.toNat (4 : Int)) : Int)).fst))) = some (SV.c (Value.int IntKind.i64 (valF (partF c.v (4 : Int) (↑(Int.toNat (4 : Int)) : Int)).fst))) ∧
  some (SV.a (0 : Nat)) = some (SV.a (0 : Nat)) ∧ some (SV.c (Value.int IntKind.u32 (IntKind.u32.wrap (valF (partF c.v (0 : Int) (↑(Int.toNat (4 : Int)) : Int)).fst)))) = some (SV.c (Value.int IntKind.u32 (IntKind.u32.wrap (valF (partF c.v (0 : Int) (↑(Int.toNat (4 : Int)) : Int)).fst)))) ∧
  some (SV.c (Value.int IntKind.i64 (valF (partF c.v (0 : Int) (↑(Int.toNat (4 : Int)) : Int)).fst))) = some (SV.c (Value.int IntKind.i64 (valF (partF c.v (0 : Int) (↑(Int.toNat (4 : Int)) : Int)).fst))) ∧
  some (SV.a (0 : Nat)) = some (SV.a (0 : Nat)) ∧ some (SV.c (Value.bool (decide ((64 : Int) < valF y.fst) || decide ((64 : Int) < valF y_1.fst) || !decide ((↑c.v.length : Int) = IntKind.i64.wrap (IntKind.i64.wrap ((12 : Int) + IntKind.i64.wrap ((4 : Int) * valF y.fst)) + IntKind.i64.wrap ((4 : Int) * valF y_1.fst)))))) = some (SV.c (Value.bool (decide ((64 : Int) < valF y.fst) || decide ((64 : Int) < valF y_1.fst) || !decide ((↑c.v.length : Int) = IntKind.i64.wrap (IntKind.i64.wrap ((12 : Int) + IntKind.i64.wrap ((4 : Int) * valF y.fst)) + IntKind.i64.wrap ((4 : Int) * valF y_1.fst)))))) ∧
  some (SV.w [!(decide ((64 : Int) < valF y.fst) || decide ((64 : Int) < valF y_1.fst))] (SV.c (Value.bool !decide ((↑c.v.length : Int) = IntKind.i64.wrap (IntKind.i64.wrap ((12 : Int) + IntKind.i64.wrap ((4 : Int) * valF y.fst)) + IntKind.i64.wrap ((4 : Int) * valF y_1.fst)))))) = some (SV.w [!(decide ((64 : Int) < valF y.fst) || decide ((64 : Int) < valF y_1.fst))] (SV.c (Value.bool !decide ((↑c.v.length : Int) = IntKind.i64.wrap (IntKind.i64.wrap ((12 : Int) + IntKind.i64.wrap ((4 : Int) * valF y.fst)) + IntKind.i64.wrap ((4 : Int) * valF y_1.fst)))))) ∧
  some (SV.w [!(decide ((64 : Int) < valF y.fst) || decide ((64 : Int) < valF y_1.fst))] (SV.c (Value.int IntKind.i64 (IntKind.i64.wrap (IntKind.i64.wrap ((12 : Int) + IntKind.i64.wrap ((4 : Int) * valF y.fst)) + IntKind.i64.wrap ((4 : Int) * valF y_1.fst)))))) = some (SV.w [!(decide ((64 : Int) < valF y.fst) || decide ((64 : Int) < valF y_1.fst))] (SV.c (Value.int IntKind.i64 (IntKind.i64.wrap (IntKind.i64.wrap ((12 : Int) + IntKind.i64.wrap ((4 : Int) * valF y.fst)) + IntKind.i64.wrap ((4 : Int) * valF y_1.fst)))))) ∧
  some (SV.w [!(decide ((64 : Int) < valF y.fst) || decide ((64 : Int) < valF y_1.fst))] (SV.c (Value.int IntKind.i64 (IntKind.i64.wrap ((4 : Int) * valF y_1.fst))))) = some (SV.w [!(decide ((64 : Int) < valF y.fst) || decide ((64 : Int) < valF y_1.fst))] (SV.c (Value.int IntKind.i64 (IntKind.i64.wrap ((4 : Int) * valF y_1.fst))))) ∧
  some (SV.w [!(decide ((64 : Int) < valF y.fst) || decide ((64 : Int) < valF y_1.fst))] (SV.c (Value.int IntKind.i64 (valF y_1.fst)))) = some (SV.w [!(decide ((64 : Int) < valF y.fst) || decide ((64 : Int) < valF y_1.fst))] (SV.c (Value.int IntKind.i64 (valF y_1.fst)))) ∧
  some (SV.w [!(decide ((64 : Int) < valF y.fst) || decide ((64 : Int) < valF y_1.fst))] (SV.c (Value.int IntKind.i64 (IntKind.i64.wrap ((12 : Int) + IntKind.i64.wrap ((4 : Int) * valF y.fst)))))) = some (SV.w [!(decide ((64 : Int) < valF y.fst) || decide ((64 : Int) < valF y_1.fst))] (SV.c (Value.int IntKind.i64 (IntKind.i64.wrap ((12 : Int) + IntKind.i64.wrap ((4 : Int) * valF y.fst)))))) ∧
  some (SV.w [!(decide ((64 : Int) < valF y.fst) || decide ((64 : Int) < valF y_1.fst))] (SV.c (Value.int IntKind.i64 (IntKind.i64.wrap ((4 : Int) * valF y.fst))))) = some (SV.w [!(decide ((64 : Int) < valF y.fst) || decide ((64 : Int) < valF y_1.fst))] (SV.c (Value.int IntKind.i64 (IntKind.i64.wrap ((4 : Int) * valF y.fst))))) ∧
  some (SV.w [!(decide ((64 : Int) < valF y.fst) || decide ((64 : Int) < valF y_1.fst))] (SV.c (Value.int IntKind.i64 (valF y.fst)))) = some (SV.w [!(decide ((64 : Int) < valF y.fst) || decide ((64 : Int) < valF y_1.fst))] (SV.c (Value.int IntKind.i64 (valF y.fst)))) ∧
  some (SV.w [!(decide ((64 : Int) < valF y.fst) || decide ((64 : Int) < valF y_1.fst))] (SV.c (Value.int IntKind.i64 (↑c.v.length : Int)))) = some (SV.w [!(decide ((64 : Int) < valF y.fst) || decide ((64 : Int) < valF y_1.fst))] (SV.c (Value.int IntKind.i64 (↑c.v.length : Int)))) ∧
  some (SV.w [!(decide ((64 : Int) < valF y.fst) || decide ((64 : Int) < valF y_1.fst))] (SV.a (0 : Nat))) = some (SV.w [!(decide ((64 : Int) < valF y.fst) || decide ((64 : Int) < valF y_1.fst))] (SV.a (0 : Nat))) ∧
  some (SV.c (Value.bool (decide ((64 : Int) < valF y.fst) || decide ((64 : Int) < valF y_1.fst)))) = some (SV.c (Value.bool (decide ((64 : Int) < valF y.fst) || decide ((64 : Int) < valF y_1.fst)))) ∧
  some (SV.c (Value.bool (decide ((64 : Int) < valF y.fst) || decide ((64 : Int) < valF y_1.fst)))) = some (SV.c (Value.bool (decide ((64 : Int) < valF y.fst) || decide ((64 : Int) < valF y_1.fst)))) ∧
  some (SV.w [!decide ((64 : Int) < valF y.fst)] (SV.c (Value.bool (decide ((64 : Int) < valF y_1.fst))))) = some (SV.w [!decide ((64 : Int) < valF y.fst)] (SV.c (Value.bool (decide ((64 : Int) < valF y_1.fst))))) ∧
  some (SV.w [!decide ((64 : Int) < valF y.fst)] (SV.c (Value.int IntKind.i64 (valF y_1.fst)))) = some (SV.w [!decide ((64 : Int) < valF y.fst)] (SV.c (Value.int IntKind.i64 (valF y_1.fst)))) ∧
  some (SV.c (Value.bool (decide ((64 : Int) < valF y.fst)))) = some (SV.c (Value.bool (decide ((64 : Int) < valF y.fst)))) ∧ some (SV.c (Value.bool (decide ((64 : Int) < valF y.fst)))) = some (SV.c (Value.bool (decide ((64 : Int) < valF y.fst)))) ∧
  some (SV.c (Value.int IntKind.i64 (valF y.fst))) = some (SV.c (Value.int IntKind.i64 (valF y.fst))) ∧ some (SV.c (Value.int IntKind.i64 (valF y_1.fst))) = some (SV.c (Value.int IntKind.i64 (valF y_1.fst))) ∧
  some (SV.c (Value.int IntKind.i64 (valF y_1.fst))) = some (SV.c (Value.int IntKind.i64 (valF y_1.fst))) ∧ some (SV.a (0 : Nat)) = some (SV.a (0 : Nat)) ∧
  some (SV.c (Value.int IntKind.i64 (valF y.fst))) = some (SV.c (Value.int IntKind.i64 (valF y.fst))) ∧ some (SV.c (Value.int IntKind.i64 (valF y.fst))) = some (SV.c (Value.int IntKind.i64 (valF y.fst))) ∧
  some (SV.a (0 : Nat)) = some (SV.a (0 : Nat)) ∧ some (SV.c (Value.bool (!decide (c.t = (3 : Int)) || decide ((↑c.v.length : Int) < (12 : Int))))) = some (SV.c (Value.bool (!decide (c.t = (3 : Int)) || decide ((↑c.v.length : Int) < (12 : Int))))) ∧
  some (SV.w [!!decide (c.t = (3 : Int))] (SV.c (Value.bool (decide ((↑c.v.length : Int) < (12 : Int)))))) = some (SV.w [!!decide (c.t = (3 : Int))] (SV.c (Value.bool (decide ((↑c.v.length : Int) < (12 : Int)))))) ∧
  some (SV.w [!!decide (c.t = (3 : Int))] (SV.c (Value.int IntKind.i64 (↑c.v.length : Int)))) = some (SV.w [!!decide (c.t = (3 : Int))] (SV.c (Value.int IntKind.i64 (↑c.v.length : Int)))) ∧
  some (SV.w [!!decide (c.t = (3 : Int))] (SV.a (0 : Nat))) = some (SV.w [!!decide (c.t = (3 : Int))] (SV.a (0 : Nat))) ∧ some (SV.c (Value.bool !decide (c.t = (3 : Int)))) = some (SV.c (Value.bool !decide (c.t = (3 : Int)))) ∧
  some (SV.c (Value.bool !decide (c.t = (3 : Int)))) = some (SV.c (Value.bool !decide (c.t = (3 : Int)))) ∧ some (SV.c (Value.int IntKind.u8 c.t)) = some (SV.c (Value.int IntKind.u8 c.t)) ∧
  some (SV.p (1 : Nat) (0 : Nat)) = some (SV.p (1 : Nat) (0 : Nat)) ∧ some (SV.a (0 : Nat)) = some (SV.a (0 : Nat)) ∧ some (SV.a (0 : Nat)) = some (SV.a (0 : Nat)) ∧
  some (SV.p (1 : Nat) (2 : Nat)) = some (SV.p (1 : Nat) (2 : Nat)) ∧ some (SV.c (Value.int IntKind.i64 (0 : Int))) = some (SV.c (Value.int IntKind.i64 (0 : Int))) ∧
  some (SV.p (2 : Nat) (0 : Nat)) = some (SV.p (2 : Nat) (0 : Nat)) ∧ some (SV.p (1 : Nat) (0 : Nat)) = some (SV.p (1 : Nat) (0 : Nat)) ∧ some (SV.agg [SV.c (Value.int IntKind.u8 c.t), SV.c (Value.int IntKind.u8 c.f), SV.a (0 : Nat)]) = some (SV.agg [SV.c (Value.int IntKind.u8 c.t), SV.c (Value.int IntKind.u8 c.f), SV.a (0 : Nat)]) ∧
  True) ∧ some (R.blk (63 : Nat) [SV.c (Value.int IntKind.u32 (0 : Int)), SV.c (Value.int IntKind.u32 (0 : Int)), SV.nil, SV.nil]) = some (R.blk (63 : Nat) [SV.c (Value.int IntKind.u32 (0 : Int)), SV.c (Value.int IntKind.u32 (0 : Int)), SV.nil, SV.nil]) ∧
  some (R.blk (45 : Nat) [SV.c (Value.int IntKind.u8 c.t), SV.c (Value.int IntKind.u8 c.f), SV.a (0 : Nat)]) = some (R.blk (45 : Nat) [SV.c (Value.int IntKind.u8 c.t), SV.c (Value.int IntKind.u8 c.f), SV.a (0 : Nat)]) ∧
  some (R.ro (D.ints IntKind.u8 c.v)) = some (R.ro (D.ints IntKind.u8 c.v)) ∧ True) ∧ True) ∧ True) ∧ True) ∧ True) ∧ True) (∃ (g0_1 : Nat), g0_1 ≤ (nDup c.v).toNat ∧
  (0 : Int) = (↑g0_1 : Int) ∧ SV.c (Value.int IntKind.u32 (IntKind.u32.wrap (valF (partF c.v (0 : Int) (↑(Int.toNat (4 : Int)) : Int)).fst))) = SV.c (Value.int IntKind.u32 (IntKind.u32.wrap (valF (partF c.v (0 : Int) (↑(Int.toNat (4 : Int)) : Int)).fst))) ∧
  SV.c (Value.int IntKind.u32 (IntKind.u32.wrap (valF (partF c.v (4 : Int) (↑(Int.toNat (4 : Int)) : Int)).fst))) = SV.c (Value.int IntKind.u32 (IntKind.u32.wrap (valF (partF c.v (4 : Int) (↑(Int.toNat (4 : Int)) : Int)).fst))) ∧
  SV.a (4 : Nat) = SV.a (4 : Nat) ∧ dupsG c.v (nGap c.v).toNat g0_1 = [] ∧ (!false && true && true) = true ∧ ∀ (g_1 : Nat), g_1 ≤ (nDup c.v).toNat → True ∧
  sw (decide ((↑g_1 : Int) < valF y_1.fst)) (True ∧ True ∧ True ∧ True ∧ ((∃ (b : List Int), ∃ (i : Int), ∃ (k : Nat), [O.d (D.ints IntKind.u8 c.v), O.d (D.v (Value.int IntKind.i64 (IntKind.i64.wrap (IntKind.i64.wrap ((12 : Int) + IntKind.i64.wrap ((4 : Int) * valF y.fst)) + IntKind.i64.wrap ((4 : Int) * (↑g_1 : Int)))))), O.d (D.v (Value.int IntKind.i64 (4 : Int)))] = [O.d (D.ints IntKind.u8 b), O.d (D.v (Value.int IntKind.i64 i)), O.d (D.v (Value.int IntKind.i64 (↑k : Int)))] ∧
  sm b.length ∧ okB b ∧ okI i ∧ (1 : Nat) ≤ k ∧ k ≤ (7 : Nat)) ∧ ((True ∧ ((dupsG c.v (nGap c.v).toNat g_1).length + (1 : Nat)) * Try.prog.types[(31 : Nat)].bytes ≤ (140737488355328 : Nat) ∧
  (True ∧ ∃ (g' : Nat), g' ≤ (nDup c.v).toNat ∧ (nDup c.v).toNat - g' < (nDup c.v).toNat - g_1 ∧ (IntKind.i64.wrap ((↑g_1 : Int) + (1 : Int)) = (↑g' : Int) ∧
  SV.c (Value.int IntKind.u32 (IntKind.u32.wrap (valF (partF c.v (0 : Int) (↑(Int.toNat (4 : Int)) : Int)).fst))) = SV.c (Value.int IntKind.u32 (IntKind.u32.wrap (valF (partF c.v (0 : Int) (↑(Int.toNat (4 : Int)) : Int)).fst))) ∧
  SV.c (Value.int IntKind.u32 (IntKind.u32.wrap (valF (partF c.v (4 : Int) (↑(Int.toNat (4 : Int)) : Int)).fst))) = SV.c (Value.int IntKind.u32 (IntKind.u32.wrap (valF (partF c.v (4 : Int) (↑(Int.toNat (4 : Int)) : Int)).fst))) ∧
  SV.a (4 : Nat) = SV.a (4 : Nat) ∧ dupsG c.v (nGap c.v).toNat g_1 ++ [IntKind.u32.wrap (valF (partF c.v (IntKind.i64.wrap (IntKind.i64.wrap ((12 : Int) + IntKind.i64.wrap ((4 : Int) * valF y.fst)) + IntKind.i64.wrap ((4 : Int) * (↑g_1 : Int)))) (↑(Int.toNat (4 : Int)) : Int)).fst)] = dupsG c.v (nGap c.v).toNat g' ∧
  (!(Nat.beq (7 : Nat) (3 : Nat) || false) && (!false && true) && true && ((Nat.ble (5 : Nat) (3 : Nat) || (Nat.beq (3 : Nat) (3 : Nat) || false)) && ((Nat.ble (5 : Nat) (7 : Nat) || (Nat.beq (3 : Nat) (7 : Nat) || false)) && true))) = true) ∧
  (some (SV.c (Value.bool (decide ((↑g : Int) < valF y.fst)))) = some (SV.c (Value.bool (decide ((↑g : Int) < valF y.fst)))) ∧ some (SV.c (Value.int IntKind.i64 (valF y.fst))) = some (SV.c (Value.int IntKind.i64 (valF y.fst))) ∧
  some (SV.c (Value.int IntKind.i64 (↑g : Int))) = some (SV.c (Value.int IntKind.i64 (↑g : Int))) ∧ some (SV.c (Value.int IntKind.i64 (↑g : Int))) = some (SV.c (Value.int IntKind.i64 (↑g : Int))) ∧
  some (SV.p (3 : Nat) (0 : Nat)) = some (SV.p (3 : Nat) (0 : Nat)) ∧ some (SV.agg [SV.c (Value.int IntKind.u32 (IntKind.u32.wrap (valF (partF c.v (0 : Int) (↑(Int.toNat (4 : Int)) : Int)).fst))), SV.c (Value.int IntKind.u32 (IntKind.u32.wrap (valF (partF c.v (4 : Int) (↑(Int.toNat (4 : Int)) : Int)).fst))), SV.nil, SV.nil]) = some (SV.agg [SV.c (Value.int IntKind.u32 (IntKind.u32.wrap (valF (partF c.v (0 : Int) (↑(Int.toNat (4 : Int)) : Int)).fst))), SV.c (Value.int IntKind.u32 (IntKind.u32.wrap (valF (partF c.v (4 : Int) (↑(Int.toNat (4 : Int)) : Int)).fst))), SV.nil, SV.nil]) ∧
  some (SV.c (Value.int IntKind.u32 (IntKind.u32.wrap (valF (partF c.v (4 : Int) (↑(Int.toNat (4 : Int)) : Int)).fst)))) = some (SV.c (Value.int IntKind.u32 (IntKind.u32.wrap (valF (partF c.v (4 : Int) (↑(Int.toNat (4 : Int)) : Int)).fst)))) ∧
  some (SV.c (Value.int IntKind.i64 (valF (partF c.v (4 : Int) (↑(Int.toNat (4 : Int)) : Int)).fst))) = some (SV.c (Value.int IntKind.i64 (valF (partF c.v (4 : Int) (↑(Int.toNat (4 : Int)) : Int)).fst))) ∧
  some (SV.a (0 : Nat)) = some (SV.a (0 : Nat)) ∧ some (SV.c (Value.int IntKind.u32 (IntKind.u32.wrap (valF (partF c.v (0 : Int) (↑(Int.toNat (4 : Int)) : Int)).fst)))) = some (SV.c (Value.int IntKind.u32 (IntKind.u32.wrap (valF (partF c.v (0 : Int) (↑(Int.toNat (4 : Int)) : Int)).fst)))) ∧
  some (SV.c (Value.int IntKind.i64 (valF (partF c.v (0 : Int) (↑(Int.toNat (4 : Int)) : Int)).fst))) = some (SV.c (Value.int IntKind.i64 (valF (partF c.v (0 : Int) (↑(Int.toNat (4 : Int)) : Int)).fst))) ∧
  some (SV.a (0 : Nat)) = some (SV.a (0 : Nat)) ∧ some (SV.c (Value.bool (decide ((64 : Int) < valF y.fst) || decide ((64 : Int) < valF y_1.fst) || !decide ((↑c.v.length : Int) = IntKind.i64.wrap (IntKind.i64.wrap ((12 : Int) + IntKind.i64.wrap ((4 : Int) * valF y.fst)) + IntKind.i64.wrap ((4 : Int) * valF y_1.fst)))))) = some (SV.c (Value.bool (decide ((64 : Int) < valF y.fst) || decide ((64 : Int) < valF y_1.fst) || !decide ((↑c.v.length : Int) = IntKind.i64.wrap (IntKind.i64.wrap ((12 : Int) + IntKind.i64.wrap ((4 : Int) * valF y.fst)) + IntKind.i64.wrap ((4 : Int) * valF y_1.fst)))))) ∧
  some (SV.w [!(decide ((64 : Int) < valF y.fst) || decide ((64 : Int) < valF y_1.fst))] (SV.c (Value.bool !decide ((↑c.v.length : Int) = IntKind.i64.wrap (IntKind.i64.wrap ((12 : Int) + IntKind.i64.wrap ((4 : Int) * valF y.fst)) + IntKind.i64.wrap ((4 : Int) * valF y_1.fst)))))) = some (SV.w [!(decide ((64 : Int) < valF y.fst) || decide ((64 : Int) < valF y_1.fst))] (SV.c (Value.bool !decide ((↑c.v.length : Int) = IntKind.i64.wrap (IntKind.i64.wrap ((12 : Int) + IntKind.i64.wrap ((4 : Int) * valF y.fst)) + IntKind.i64.wrap ((4 : Int) * valF y_1.fst)))))) ∧
  some (SV.w [!(decide ((64 : Int) < valF y.fst) || decide ((64 : Int) < valF y_1.fst))] (SV.c (Value.int IntKind.i64 (IntKind.i64.wrap (IntKind.i64.wrap ((12 : Int) + IntKind.i64.wrap ((4 : Int) * valF y.fst)) + IntKind.i64.wrap ((4 : Int) * valF y_1.fst)))))) = some (SV.w [!(decide ((64 : Int) < valF y.fst) || decide ((64 : Int) < valF y_1.fst))] (SV.c (Value.int IntKind.i64 (IntKind.i64.wrap (IntKind.i64.wrap ((12 : Int) + IntKind.i64.wrap ((4 : Int) * valF y.fst)) + IntKind.i64.wrap ((4 : Int) * valF y_1.fst)))))) ∧
  some (SV.w [!(decide ((64 : Int) < valF y.fst) || decide ((64 : Int) < valF y_1.fst))] (SV.c (Value.int IntKind.i64 (IntKind.i64.wrap ((4 : Int) * valF y_1.fst))))) = some (SV.w [!(decide ((64 : Int) < valF y.fst) || decide ((64 : Int) < valF y_1.fst))] (SV.c (Value.int IntKind.i64 (IntKind.i64.wrap ((4 : Int) * valF y_1.fst))))) ∧
  some (SV.w [!(decide ((64 : Int) < valF y.fst) || decide ((64 : Int) < valF y_1.fst))] (SV.c (Value.int IntKind.i64 (valF y_1.fst)))) = some (SV.w [!(decide ((64 : Int) < valF y.fst) || decide ((64 : Int) < valF y_1.fst))] (SV.c (Value.int IntKind.i64 (valF y_1.fst)))) ∧
  some (SV.w [!(decide ((64 : Int) < valF y.fst) || decide ((64 : Int) < valF y_1.fst))] (SV.c (Value.int IntKind.i64 (IntKind.i64.wrap ((12 : Int) + IntKind.i64.wrap ((4 : Int) * valF y.fst)))))) = some (SV.w [!(decide ((64 : Int) < valF y.fst) || decide ((64 : Int) < valF y_1.fst))] (SV.c (Value.int IntKind.i64 (IntKind.i64.wrap ((12 : Int) + IntKind.i64.wrap ((4 : Int) * valF y.fst)))))) ∧
  some (SV.w [!(decide ((64 : Int) < valF y.fst) || decide ((64 : Int) < valF y_1.fst))] (SV.c (Value.int IntKind.i64 (IntKind.i64.wrap ((4 : Int) * valF y.fst))))) = some (SV.w [!(decide ((64 : Int) < valF y.fst) || decide ((64 : Int) < valF y_1.fst))] (SV.c (Value.int IntKind.i64 (IntKind.i64.wrap ((4 : Int) * valF y.fst))))) ∧
  some (SV.w [!(decide ((64 : Int) < valF y.fst) || decide ((64 : Int) < valF y_1.fst))] (SV.c (Value.int IntKind.i64 (valF y.fst)))) = some (SV.w [!(decide ((64 : Int) < valF y.fst) || decide ((64 : Int) < valF y_1.fst))] (SV.c (Value.int IntKind.i64 (valF y.fst)))) ∧
  some (SV.w [!(decide ((64 : Int) < valF y.fst) || decide ((64 : Int) < valF y_1.fst))] (SV.c (Value.int IntKind.i64 (↑c.v.length : Int)))) = some (SV.w [!(decide ((64 : Int) < valF y.fst) || decide ((64 : Int) < valF y_1.fst))] (SV.c (Value.int IntKind.i64 (↑c.v.length : Int)))) ∧
  some (SV.w [!(decide ((64 : Int) < valF y.fst) || decide ((64 : Int) < valF y_1.fst))] (SV.a (0 : Nat))) = some (SV.w [!(decide ((64 : Int) < valF y.fst) || decide ((64 : Int) < valF y_1.fst))] (SV.a (0 : Nat))) ∧
  some (SV.c (Value.bool (decide ((64 : Int) < valF y.fst) || decide ((64 : Int) < valF y_1.fst)))) = some (SV.c (Value.bool (decide ((64 : Int) < valF y.fst) || decide ((64 : Int) < valF y_1.fst)))) ∧
  some (SV.c (Value.bool (decide ((64 : Int) < valF y.fst) || decide ((64 : Int) < valF y_1.fst)))) = some (SV.c (Value.bool (decide ((64 : Int) < valF y.fst) || decide ((64 : Int) < valF y_1.fst)))) ∧
  some (SV.w [!decide ((64 : Int) < valF y.fst)] (SV.c (Value.bool (decide ((64 : Int) < valF y_1.fst))))) = some (SV.w [!decide ((64 : Int) < valF y.fst)] (SV.c (Value.bool (decide ((64 : Int) < valF y_1.fst))))) ∧
  some (SV.w [!decide ((64 : Int) < valF y.fst)] (SV.c (Value.int IntKind.i64 (valF y_1.fst)))) = some (SV.w [!decide ((64 : Int) < valF y.fst)] (SV.c (Value.int IntKind.i64 (valF y_1.fst)))) ∧
  some (SV.c (Value.bool (decide ((64 : Int) < valF y.fst)))) = some (SV.c (Value.bool (decide ((64 : Int) < valF y.fst)))) ∧ some (SV.c (Value.bool (decide ((64 : Int) < valF y.fst)))) = some (SV.c (Value.bool (decide ((64 : Int) < valF y.fst)))) ∧
  some (SV.c (Value.int IntKind.i64 (valF y.fst))) = some (SV.c (Value.int IntKind.i64 (valF y.fst))) ∧ some (SV.c (Value.int IntKind.i64 (valF y_1.fst))) = some (SV.c (Value.int IntKind.i64 (valF y_1.fst))) ∧
  some (SV.c (Value.int IntKind.i64 (valF y_1.fst))) = some (SV.c (Value.int IntKind.i64 (valF y_1.fst))) ∧ some (SV.a (0 : Nat)) = some (SV.a (0 : Nat)) ∧
  some (SV.c (Value.int IntKind.i64 (valF y.fst))) = some (SV.c (Value.int IntKind.i64 (valF y.fst))) ∧ some (SV.c (Value.int IntKind.i64 (valF y.fst))) = some (SV.c (Value.int IntKind.i64 (valF y.fst))) ∧
  some (SV.a (0 : Nat)) = some (SV.a (0 : Nat)) ∧ some (SV.c (Value.bool (!decide (c.t = (3 : Int)) || decide ((↑c.v.length : Int) < (12 : Int))))) = some (SV.c (Value.bool (!decide (c.t = (3 : Int)) || decide ((↑c.v.length : Int) < (12 : Int))))) ∧
  some (SV.w [!!decide (c.t = (3 : Int))] (SV.c (Value.bool (decide ((↑c.v.length : Int) < (12 : Int)))))) = some (SV.w [!!decide (c.t = (3 : Int))] (SV.c (Value.bool (decide ((↑c.v.length : Int) < (12 : Int)))))) ∧
  some (SV.w [!!decide (c.t = (3 : Int))] (SV.c (Value.int IntKind.i64 (↑c.v.length : Int)))) = some (SV.w [!!decide (c.t = (3 : Int))] (SV.c (Value.int IntKind.i64 (↑c.v.length : Int)))) ∧
  some (SV.w [!!decide (c.t = (3 : Int))] (SV.a (0 : Nat))) = some (SV.w [!!decide (c.t = (3 : Int))] (SV.a (0 : Nat))) ∧ some (SV.c (Value.bool !decide (c.t = (3 : Int)))) = some (SV.c (Value.bool !decide (c.t = (3 : Int)))) ∧
  some (SV.c (Value.bool !decide (c.t = (3 : Int)))) = some (SV.c (Value.bool !decide (c.t = (3 : Int)))) ∧ some (SV.c (Value.int IntKind.u8 c.t)) = some (SV.c (Value.int IntKind.u8 c.t)) ∧
  some (SV.p (1 : Nat) (0 : Nat)) = some (SV.p (1 : Nat) (0 : Nat)) ∧ some (SV.a (0 : Nat)) = some (SV.a (0 : Nat)) ∧ some (SV.a (0 : Nat)) = some (SV.a (0 : Nat)) ∧
  some (SV.p (1 : Nat) (2 : Nat)) = some (SV.p (1 : Nat) (2 : Nat)) ∧ some (SV.c (Value.int IntKind.i64 (0 : Int))) = some (SV.c (Value.int IntKind.i64 (0 : Int))) ∧
  some (SV.p (2 : Nat) (0 : Nat)) = some (SV.p (2 : Nat) (0 : Nat)) ∧ some (SV.p (1 : Nat) (0 : Nat)) = some (SV.p (1 : Nat) (0 : Nat)) ∧ some (SV.agg [SV.c (Value.int IntKind.u8 c.t), SV.c (Value.int IntKind.u8 c.f), SV.a (0 : Nat)]) = some (SV.agg [SV.c (Value.int IntKind.u8 c.t), SV.c (Value.int IntKind.u8 c.f), SV.a (0 : Nat)]) ∧
  True) ∧ some (R.own (96 : Nat) (D.recs (2 : Nat) (gapsG c.v g).length (gapCell (gapsG c.v g)))) = some (R.own (96 : Nat) (D.recs (2 : Nat) (gapsG c.v g).length (gapCell (gapsG c.v g)))) ∧
  some (R.blk (63 : Nat) [SV.c (Value.int IntKind.u32 (0 : Int)), SV.c (Value.int IntKind.u32 (0 : Int)), SV.nil, SV.nil]) = some (R.blk (63 : Nat) [SV.c (Value.int IntKind.u32 (0 : Int)), SV.c (Value.int IntKind.u32 (0 : Int)), SV.nil, SV.nil]) ∧
  some (R.blk (45 : Nat) [SV.c (Value.int IntKind.u8 c.t), SV.c (Value.int IntKind.u8 c.f), SV.a (0 : Nat)]) = some (R.blk (45 : Nat) [SV.c (Value.int IntKind.u8 c.t), SV.c (Value.int IntKind.u8 c.f), SV.a (0 : Nat)]) ∧
  some (R.ro (D.ints IntKind.u8 c.v)) = some (R.ro (D.ints IntKind.u8 c.v)) ∧ True) ∧ True) ∧ True) ∧ True) ∧ True) ((∃ (h : HeaR), [O.agg [O.d (D.v (Value.int IntKind.u32 (IntKind.u32.wrap (valF (partF c.v (0 : Int) (↑(Int.toNat (4 : Int)) : Int)).fst)))), O.d (D.v (Value.int IntKind.u32 (IntKind.u32.wrap (valF (partF c.v (4 : Int) (↑(Int.toNat (4 : Int)) : Int)).fst)))), O.d (D.recs (2 : Nat) (gapsG c.v g).length (gapCell (gapsG c.v g))), O.d (D.ints IntKind.u32 (dupsG c.v (nGap c.v).toNat g_1))]] = [O.agg [O.d (D.v (Value.int IntKind.u32 h.cum)), O.d (D.v (Value.int IntKind.u32 h.win)), O.d (D.recs (2 : Nat) h.gaps.length (gapCell h.gaps)), O.d (D.ints IntKind.u32 h.dups)]] ∧
  okHea h) ∧ True ∧ sw (!decide ((fromHea (HeaR.mk (IntKind.u32.wrap (valF (partF c.v (0 : Int) (↑(Int.toNat (4 : Int)) : Int)).fst)) (IntKind.u32.wrap (valF (partF c.v (4 : Int) (↑(Int.toNat (4 : Int)) : Int)).fst)) (gapsOf (D.recs (2 : Nat) (gapsG c.v g).length (gapCell (gapsG c.v g)))) (dupsG c.v (nGap c.v).toNat g_1))).snd = (0 : Int))) ((0 : Int) = (toHea (ChR.mk c.t c.f c.v)).fst.cum ∧
  (0 : Int) = (toHea (ChR.mk c.t c.f c.v)).fst.win ∧ (toHea (ChR.mk c.t c.f c.v)).fst.gaps.length = (0 : Nat) ∧ (toHea (ChR.mk c.t c.f c.v)).fst.dups = [] ∧
  (2 : Int) = (toHea (ChR.mk c.t c.f c.v)).snd ∧ (true && true) = true) ((∃ (c_1 : ChR), ∃ (d : ChR), [O.agg [O.d (D.v (Value.int IntKind.u8 (fromHea (HeaR.mk (IntKind.u32.wrap (valF (partF c.v (0 : Int) (↑(Int.toNat (4 : Int)) : Int)).fst)) (IntKind.u32.wrap (valF (partF c.v (4 : Int) (↑(Int.toNat (4 : Int)) : Int)).fst)) (gapsOf (D.recs (2 : Nat) (gapsG c.v g).length (gapCell (gapsG c.v g)))) (dupsG c.v (nGap c.v).toNat g_1))).fst.t)), O.d (D.v (Value.int IntKind.u8 (fromHea (HeaR.mk (IntKind.u32.wrap (valF (partF c.v (0 : Int) (↑(Int.toNat (4 : Int)) : Int)).fst)) (IntKind.u32.wrap (valF (partF c.v (4 : Int) (↑(Int.toNat (4 : Int)) : Int)).fst)) (gapsOf (D.recs (2 : Nat) (gapsG c.v g).length (gapCell (gapsG c.v g)))) (dupsG c.v (nGap c.v).toNat g_1))).fst.f)), O.d (D.ints IntKind.u8 (fromHea (HeaR.mk (IntKind.u32.wrap (valF (partF c.v (0 : Int) (↑(Int.toNat (4 : Int)) : Int)).fst)) (IntKind.u32.wrap (valF (partF c.v (4 : Int) (↑(Int.toNat (4 : Int)) : Int)).fst)) (gapsOf (D.recs (2 : Nat) (gapsG c.v g).length (gapCell (gapsG c.v g)))) (dupsG c.v (nGap c.v).toNat g_1))).fst.v)], O.agg [O.d (D.v (Value.int IntKind.u8 c.t)), O.d (D.v (Value.int IntKind.u8 c.f)), O.d (D.ints IntKind.u8 c.v)]] = [O.agg [O.d (D.v (Value.int IntKind.u8 c_1.t)), O.d (D.v (Value.int IntKind.u8 c_1.f)), O.d (D.ints IntKind.u8 c_1.v)], O.agg [O.d (D.v (Value.int IntKind.u8 d.t)), O.d (D.v (Value.int IntKind.u8 d.f)), O.d (D.ints IntKind.u8 d.v)]]) ∧
  sw (!sameCh (ChR.mk (fromHea (HeaR.mk (IntKind.u32.wrap (valF (partF c.v (0 : Int) (↑(Int.toNat (4 : Int)) : Int)).fst)) (IntKind.u32.wrap (valF (partF c.v (4 : Int) (↑(Int.toNat (4 : Int)) : Int)).fst)) (gapsOf (D.recs (2 : Nat) (gapsG c.v g).length (gapCell (gapsG c.v g)))) (dupsG c.v (nGap c.v).toNat g_1))).fst.t (fromHea (HeaR.mk (IntKind.u32.wrap (valF (partF c.v (0 : Int) (↑(Int.toNat (4 : Int)) : Int)).fst)) (IntKind.u32.wrap (valF (partF c.v (4 : Int) (↑(Int.toNat (4 : Int)) : Int)).fst)) (gapsOf (D.recs (2 : Nat) (gapsG c.v g).length (gapCell (gapsG c.v g)))) (dupsG c.v (nGap c.v).toNat g_1))).fst.f (fromHea (HeaR.mk (IntKind.u32.wrap (valF (partF c.v (0 : Int) (↑(Int.toNat (4 : Int)) : Int)).fst)) (IntKind.u32.wrap (valF (partF c.v (4 : Int) (↑(Int.toNat (4 : Int)) : Int)).fst)) (gapsOf (D.recs (2 : Nat) (gapsG c.v g).length (gapCell (gapsG c.v g)))) (dupsG c.v (nGap c.v).toNat g_1))).fst.v) (ChR.mk c.t c.f c.v)) ((0 : Int) = (toHea (ChR.mk c.t c.f c.v)).fst.cum ∧
  (0 : Int) = (toHea (ChR.mk c.t c.f c.v)).fst.win ∧ (toHea (ChR.mk c.t c.f c.v)).fst.gaps.length = (0 : Nat) ∧ (toHea (ChR.mk c.t c.f c.v)).fst.dups = [] ∧
  (2 : Int) = (toHea (ChR.mk c.t c.f c.v)).snd ∧ (true && true) = true) (IntKind.u32.wrap (valF (partF c.v (0 : Int) (↑(Int.toNat (4 : Int)) : Int)).fst) = (toHea (ChR.mk c.t c.f c.v)).fst.cum ∧
  IntKind.u32.wrap (valF (partF c.v (4 : Int) (↑(Int.toNat (4 : Int)) : Int)).fst) = (toHea (ChR.mk c.t c.f c.v)).fst.win ∧ ((gapsG c.v g).length = (toHea (ChR.mk c.t c.f c.v)).fst.gaps.length ∧
  ∀ (i : Nat), i < (gapsG c.v g).length → ∀ (j : Nat), j < (2 : Nat) → gapCell (gapsG c.v g) i j = gapCell (toHea (ChR.mk c.t c.f c.v)).fst.gaps i j) ∧ dupsG c.v (nGap c.v).toNat g_1 = (toHea (ChR.mk c.t c.f c.v)).fst.dups ∧
  (0 : Int) = (toHea (ChR.mk c.t c.f c.v)).snd ∧ (!(Nat.beq (5 : Nat) (4 : Nat) || false) && (!false && true) && true) = true)))))) := by
  simp only [↓sw_iff, ↓Bool.and_eq_true, ↓decide_eq_true_eq, ↓decide_eq_false_iff_not, ↓Bool.not_eq_true', ↓Bool.not_eq_false', true_and, and_true, implies_true, Bool.or_false, Bool.false_or, Nat.ble, Nat.beq, toNat2, toNat4, ch_eta, num_def, gapsOf_gaps, size96, bytes96, bytes31]
  intro c h1 h2 h3 h4
  obtain ⟨⟨G0, G1⟩, ⟨D0, D1⟩⟩ := n_rng h1
  have h2' := h2
  unfold sm at h2'
  have eG : numAt c.v 8 2 = nGap c.v := rfl
  have eD : numAt c.v 10 2 = nDup c.v := rfl
  have w1 : IntKind.i64.wrap (4 * nGap c.v) = 4 * nGap c.v := wrap_i64_id (by omega) (by omega)
  have w2 : IntKind.i64.wrap (12 + 4 * nGap c.v) = 12 + 4 * nGap c.v := wrap_i64_id (by omega) (by omega)
  have w3 : IntKind.i64.wrap (4 * nDup c.v) = 4 * nDup c.v := wrap_i64_id (by omega) (by omega)
  have w4 : IntKind.i64.wrap (12 + 4 * nGap c.v + 4 * nDup c.v) = 12 + 4 * nGap c.v + 4 * nDup c.v := wrap_i64_id (by omega) (by omega)
  simp only [u32_num h1, u16_num h1, eG, eD, w1, w2, w3, w4]
  have P : ∀ (i : Int) (k : Nat), 0 ≤ i → i ≤ 1000000 → 1 ≤ k → k ≤ 7 → (∃ (b : List Int) (j : Int) (m : Nat), [O.d (D.ints IntKind.u8 c.v), O.d (D.v (Value.int IntKind.i64 i)), O.d (D.v (Value.int IntKind.i64 (k : Int)))] = [O.d (D.ints IntKind.u8 b), O.d (D.v (Value.int IntKind.i64 j)), O.d (D.v (Value.int IntKind.i64 (m : Int)))] ∧ sm b.length ∧ okB b ∧ okI j ∧ 1 ≤ m ∧ m ≤ 7) :=
    fun i k a1 a2 a3 a4 => ⟨_, _, k, rfl, h2, h1, by unfold okI; omega, a3, a4⟩
  refine ⟨fun e => herr_leaf (href1 h1 (r1_t e)), fun e => ?_⟩
  have b1 := r1_f e
  refine ⟨P 8 2 (by decide) (by decide) (by decide) (by decide), P 10 2 (by decide) (by decide) (by decide) (by decide), fun e2 => herr_leaf (href2 h1 (r2_t rfl rfl (by rfl) e2)), fun e2 => ?_⟩
  have b2 := r2_f rfl rfl (by rfl) e2
  refine ⟨P 0 4 (by decide) (by decide) (by decide) (by decide), P 4 4 (by decide) (by decide) (by decide) (by decide), 0, Nat.zero_le _, rfl, gapsG_len _ 0, ?_⟩
  intro g hg
  have gl := gapsG_len c.v g
  refine ⟨fun hlt => ?_, fun hge => ?_⟩
  · have v1 : IntKind.i64.wrap (4 * (g : Int)) = 4 * (g : Int) := wrap_i64_id (by omega) (by omega)
    have v2 : IntKind.i64.wrap (12 + 4 * (g : Int)) = ((12 + 4 * g : Nat) : Int) := by rw [wrap_i64_id (by omega) (by omega)]; omega
    have v3 : IntKind.i64.wrap (14 + 4 * (g : Int)) = ((14 + 4 * g : Nat) : Int) := by rw [wrap_i64_id (by omega) (by omega)]; omega
    rw [v1, v2, v3]
    refine ⟨P _ 2 (by omega) (by omega) (by decide) (by decide), P _ 2 (by omega) (by omega) (by decide) (by decide), by omega, g + 1, by omega, by omega, by rw [wrap_i64_id (by omega) (by omega)]; rfl, by rw [gapsG_len, gapsG_len], ?_⟩
    intro i hi j hj
    rw [gapsG_succ]
    exact app_gap _ _ _ hi hj
  · obtain rfl : g = (nGap c.v).toNat := by omega
    refine ⟨0, Nat.zero_le _, rfl, rfl, ?_⟩
    intro d hd
    have dl := dupsG_len c.v (nGap c.v).toNat d
    refine ⟨fun hlt => ?_, fun hge' => ?_⟩
    · have v1 : IntKind.i64.wrap (4 * (d : Int)) = 4 * (d : Int) := wrap_i64_id (by omega) (by omega)
      have v2 : IntKind.i64.wrap (12 + 4 * nGap c.v + 4 * (d : Int)) = ((12 + 4 * (nGap c.v).toNat + 4 * d : Nat) : Int) := by rw [wrap_i64_id (by omega) (by omega)]; omega
      rw [v1, v2]
      exact ⟨P _ 4 (by omega) (by omega) (by decide) (by decide), by omega, d + 1, by omega, by omega, by rw [wrap_i64_id (by omega) (by omega)]; rfl, (dupsG_succ _ _ _).symm⟩
    · obtain rfl : d = (nDup c.v).toNat := by omega
      have hO : HeaR.mk (numAt c.v 0 4) (numAt c.v 4 4) (gapsG c.v (nGap c.v).toNat) (dupsG c.v (nGap c.v).toNat (nDup c.v).toNat) = heaOf c.v := rfl
      rw [hO, sameCh_eq (fromHea_okB _) h1]
      refine ⟨⟨heaOf c.v, rfl, heaOf_ok h1⟩, fun e3 => herr_leaf (href3 h1 (.inl e3)), fun e3 => ⟨⟨_, _, rfl⟩, fun e4 => herr_leaf (href3 h1 (.inr e4)), fun e4 => ?_⟩⟩
      rw [href4 h1 b1 b2 e3 e4]
      exact ⟨rfl, rfl, ⟨rfl, fun _ _ _ _ => rfl⟩, rfl, rfl⟩
set_option maxRecDepth 100000 in
theorem ok38 : FnIs Try.prog 38 toHeaC := by
  refine fnIs (C := (ctrs c27)) (by kernel_rfl) c27_ok Try.func38 (code := code38) (by kernel_rfl) (by kernel_rfl) ?_
  rintro a ⟨c, rfl, h1, h2, h3, h4⟩
  exact ⟨anns [(10, readG' c 8 7), (14, readD' c 9 7)] [18], kcast (vc38 c h1 h2 h3 h4) (by kernel_rfl)⟩

end Go.ZR

/- The statement of what is heard: contracts. -/
set_option maxRecDepth 100000
namespace Go.ZR
open Go.Z Go.ZM Go.Proofs
def heaLawC : Ctr := trueC 2 fun a => ∃ h c, a = [heaO h, chO c] ∧ okHea h ∧ chOk c
def c28 : List (Nat × Ctr) := [(17, ansC), (34, fromHeaC), (35, fromHeaC), (25, sameC), (36, toHeaC), (38, toHeaC), (37, sameHeaC), (15, ownWC)]
theorem c28_ok : COk Try.prog (ctrs c28) := cok_cons ok17 (cok_cons ok34 (cok_cons ok35 (cok_cons ok25 (cok_cons ok36 (cok_cons ok38 (cok_cons ok37 (cok_cons ok15w cok_nil)))))))
theorem toHea_ok {c : ChR} (hv : okB c.v) : okHea (toHea c).1 := by
  have hn : okHea noHea := ⟨⟨by decide, by decide⟩, ⟨by decide, by decide⟩, ⟨by decide, fun g hg => by cases hg⟩, ⟨by decide, fun g hg => by cases hg⟩⟩
  unfold toHea
  split
  · exact hn
  split
  · exact hn
  · exact heaOf_ok hv
end Go.ZR

/- What is done with chunks of unknown types; of which sort a chunk is: plain laws, contracts. -/
set_option maxRecDepth 100000
namespace Go.ZM
open Go.Z Go.ZR
def skipF (n : Int) : Bool := decide (128 ≤ n)
def tellF (n : Int) : Bool := decide (n / 64 % 2 = 1)
theorem act_all : ∀ n : Fin 256, decide (0 < bits .and .u8 (n : Int) 128) = skipF n ∧ decide (0 < bits .and .u8 (n : Int) 64) = tellF n := by decide +kernel
theorem act_eq {n : Int} (h0 : 0 ≤ n) (h1 : n ≤ 255) : decide (0 < bits .and .u8 n 128) = skipF n ∧ decide (0 < bits .and .u8 n 64) = tellF n := by
  have := act_all ⟨n.toNat, by omega⟩
  simp only [show ((n.toNat : Nat) : Int) = n by omega] at this
  exact this
theorem toHel_or (c : ChR) : ((toHel c).2 = 0 ∧ (c.t = 1 ∨ c.t = 2)) ∨ (toHel c).2 = 2 := by
  unfold toHel
  split
  · exact .inr rfl
  · rename_i h
    rw [not_or] at h
    refine .inl ⟨rfl, ?_⟩
    have e := sameB_eq.1 (by simpa using h.2 : sameB (fromHel (helOf c) (decide (c.t = 2))).1 c = true)
    obtain ⟨_, _, g⟩ := fromHel_ok (by simpa using h.1 : (fromHel (helOf c) (decide (c.t = 2))).2 = 0)
    rw [e] at g
    split at g <;> rw [g] <;> simp
theorem toPie_or (c : ChR) : ((toPie c).2 = 0 ∧ c.t = 0) ∨ (toPie c).2 = 2 := by
  unfold toPie
  split
  · exact .inr rfl
  · rename_i h
    rw [not_or] at h
    refine .inl ⟨rfl, ?_⟩
    have e := sameB_eq.1 (by simpa using h.2 : sameB (fromPie (pieOf c)).1 c = true)
    obtain ⟨_, g⟩ := fromPie_ok (by simpa using h.1 : (fromPie (pieOf c)).2 = 0)
    rw [e] at g
    rw [g]
theorem toHea_or (c : ChR) : ((toHea c).2 = 0 ∧ c.t = 3) ∨ (toHea c).2 = 2 := by
  unfold toHea
  split
  · exact .inr rfl
  rename_i h
  split
  · exact .inr rfl
  · refine .inl ⟨rfl, ?_⟩
    unfold badHea at h
    omega
end Go.ZM
namespace Go.ZR
open Go.Z Go.ZM Go.Proofs
def actC : Ctr := nC 1 true (fun a => ∃ n, a = [iO .u8 n] ∧ 0 ≤ n ∧ n ≤ 255) fun a => [bO (skipF (vi (dO (at_ a 0)))), bO (tellF (vi (dO (at_ a 0))))]
def actLawC : Ctr := trueC 2 fun a => ∃ n c, a = [iO .u8 n, chO c] ∧ (0 ≤ n ∧ n ≤ 255) ∧ chOk c
end Go.ZR

/- What is done with a chunk of an unknown type: walked. -/
namespace Go.ZR
open Go.Proofs
open Go.Z Go.ZM Go.RowKit
set_option maxRecDepth 100000
noncomputable def code43 : Code := match Try.f43.body with | some c => c | none => .skip
set_option maxHeartbeats 4000000 in
theorem vc43 : ∀ (n : Int), (0 : Int) ≤ n → n ≤ (255 : Int) → True ∧ True ∧ True ∧ True ∧ decide ((0 : Int) < bits BinOp.and IntKind.u8 n (128 : Int)) = skipF n ∧ decide ((0 : Int) < bits BinOp.and IntKind.u8 n (64 : Int)) = tellF n ∧
  (true && true) = true := by
  simp only [↓Bool.and_eq_true, true_and, and_true]
  intro n h0 h1
  exact act_eq h0 h1
set_option maxRecDepth 100000 in
theorem ok43 : FnIs Try.prog 43 actC := by
  refine fnIs (C := (ctrs c0)) (by kernel_rfl) c0_ok Try.func43 (code := code43) (by kernel_rfl) (by kernel_rfl) ?_
  rintro a ⟨n, rfl, h0, h1⟩
  exact ⟨anns [], kcast (vc43 n h0 h1) (by kernel_rfl)⟩

end Go.ZR

/- The statement of actions: contracts of the callees. -/
set_option maxRecDepth 100000
namespace Go.ZR
open Go.Z Go.ZM Go.Proofs
def c33 : List (Nat × Ctr) := [(17, ansC), (43, actC), (31, toHelC), (26, toPieC), (36, toHeaC), (15, ownWC)]
theorem c33_ok : COk Try.prog (ctrs c33) := cok_cons ok17 (cok_cons ok43 (cok_cons ok31 (cok_cons ok26 (cok_cons ok36 (cok_cons ok15w cok_nil)))))
end Go.ZR

/- ChunkActions: walked. -/
namespace Go.ZR
open Go.Proofs
open Go.Z Go.ZM Go.RowKit
set_option maxRecDepth 100000
theorem tell_eq {n : Int} (h0 : 0 ≤ n) (h1 : n ≤ 255) : (IntKind.u8.wrap (n.tdiv 64)).tmod 2 = n / 64 % 2 := by
  rw [Int.tdiv_eq_ediv_of_nonneg h0, IntKind.wrap_u8, Int.tmod_eq_emod_of_nonneg (by omega)]
  omega
noncomputable def code13 : Code := match Try.f13.body with | some c => c | none => .skip
set_option maxHeartbeats 4000000 in
theorem vc13 : ∀ (n : Int) (c : ChR), let y := chsOf (D.recs Try.prog.types[(45 : Nat)].size (1 : Nat) fun (i j : Nat) => [D.v (Value.int IntKind.u8 c.t), D.v (Value.int IntKind.u8 c.f), D.ints IntKind.u8 c.v].getD (i * Try.prog.types[(45 : Nat)].size + j) (D.v undef));
  (0 : Int) ≤ n ∧ n ≤ (255 : Int) → (((0 : Int) ≤ c.t ∧ c.t ≤ (255 : Int)) ∧ ((0 : Int) ≤ c.f ∧ c.f ≤ (255 : Int)) ∧ okB c.v) ∧ sm c.v.length → (∃ (n_1 : Int), [O.d (D.v (Value.int IntKind.u8 n))] = [O.d (D.v (Value.int IntKind.u8 n_1))] ∧
  (0 : Int) ≤ n_1 ∧ n_1 ≤ (255 : Int)) ∧ (∃ (l : List ChR), ∃ (A : D), [O.d (D.recs Try.prog.types[(45 : Nat)].size (1 : Nat) fun (i j : Nat) => [D.v (Value.int IntKind.u8 c.t), D.v (Value.int IntKind.u8 c.f), D.ints IntKind.u8 c.v].getD (i * Try.prog.types[(45 : Nat)].size + j) (D.v undef))] = [O.d A] ∧
  asCh A l ∧ okChs l) ∧ ((0 : Int) ≤ (0 : Int) ∧ (0 : Int) < (↑(1 : Nat) : Int)) ∧ (∃ (c_1 : ChR), [O.agg [O.d (D.v (Value.int IntKind.u8 (y.getD (Int.toNat (0 : Int)) noCh).t)), O.d (D.v (Value.int IntKind.u8 (y.getD (Int.toNat (0 : Int)) noCh).f)), O.d (D.ints IntKind.u8 (y.getD (Int.toNat (0 : Int)) noCh).v)]] = [O.agg [O.d (D.v (Value.int IntKind.u8 c_1.t)), O.d (D.v (Value.int IntKind.u8 c_1.f)), O.d (D.ints IntKind.u8 c_1.v)]] ∧
  okB c_1.v ∧ sm c_1.v.length) ∧ (∃ (l : List ChR), ∃ (A : D), [O.d (D.recs Try.prog.types[(45 : Nat)].size (1 : Nat) fun (i j : Nat) => [D.v (Value.int IntKind.u8 c.t), D.v (Value.int IntKind.u8 c.f), D.ints IntKind.u8 c.v].getD (i * Try.prog.types[(45 : Nat)].size + j) (D.v undef))] = [O.d A] ∧
  asCh A l ∧ okChs l) ∧ ((0 : Int) ≤ (0 : Int) ∧ (0 : Int) < (↑(1 : Nat) : Int)) ∧ (∃ (c_1 : ChR), [O.agg [O.d (D.v (Value.int IntKind.u8 (y.getD (Int.toNat (0 : Int)) noCh).t)), O.d (D.v (Value.int IntKind.u8 (y.getD (Int.toNat (0 : Int)) noCh).f)), O.d (D.ints IntKind.u8 (y.getD (Int.toNat (0 : Int)) noCh).v)]] = [O.agg [O.d (D.v (Value.int IntKind.u8 c_1.t)), O.d (D.v (Value.int IntKind.u8 c_1.f)), O.d (D.ints IntKind.u8 c_1.v)]] ∧
  okB c_1.v ∧ sm c_1.v.length ∧ (0 : Int) ≤ c_1.f ∧ c_1.f ≤ (255 : Int)) ∧ (∃ (l : List ChR), ∃ (A : D), [O.d (D.recs Try.prog.types[(45 : Nat)].size (1 : Nat) fun (i j : Nat) => [D.v (Value.int IntKind.u8 c.t), D.v (Value.int IntKind.u8 c.f), D.ints IntKind.u8 c.v].getD (i * Try.prog.types[(45 : Nat)].size + j) (D.v undef))] = [O.d A] ∧
  asCh A l ∧ okChs l) ∧ ((0 : Int) ≤ (0 : Int) ∧ (0 : Int) < (↑(1 : Nat) : Int)) ∧ (∃ (c_1 : ChR), [O.agg [O.d (D.v (Value.int IntKind.u8 (y.getD (Int.toNat (0 : Int)) noCh).t)), O.d (D.v (Value.int IntKind.u8 (y.getD (Int.toNat (0 : Int)) noCh).f)), O.d (D.ints IntKind.u8 (y.getD (Int.toNat (0 : Int)) noCh).v)]] = [O.agg [O.d (D.v (Value.int IntKind.u8 c_1.t)), O.d (D.v (Value.int IntKind.u8 c_1.f)), O.d (D.ints IntKind.u8 c_1.v)]] ∧
  okB c_1.v ∧ sm c_1.v.length ∧ (0 : Int) ≤ c_1.f ∧ c_1.f ≤ (255 : Int)) ∧ True ∧ sw (decide ((toHel (ChR.mk (y.getD (Int.toNat (0 : Int)) noCh).t (y.getD (Int.toNat (0 : Int)) noCh).f (y.getD (Int.toNat (0 : Int)) noCh).v)).snd = (0 : Int))) (True ∧
  True ∧ sw (decide ((toPie (ChR.mk (y.getD (Int.toNat (0 : Int)) noCh).t (y.getD (Int.toNat (0 : Int)) noCh).f (y.getD (Int.toNat (0 : Int)) noCh).v)).snd = (0 : Int))) (True ∧
  True ∧ sw (decide ((toHea (ChR.mk (y.getD (Int.toNat (0 : Int)) noCh).t (y.getD (Int.toNat (0 : Int)) noCh).f (y.getD (Int.toNat (0 : Int)) noCh).v)).snd = (0 : Int))) (True ∧
  ([] : List O) = [] ∧ True ∧ True ∧ sw (skipF n == decide ((128 : Int) ≤ n)) ((64 : Int) ≠ (0 : Int) ∧ (2 : Int) ≠ (0 : Int) ∧ True ∧ True ∧ sw (tellF n == decide ((IntKind.u8.wrap (n.tdiv (64 : Int))).tmod (2 : Int) = (1 : Int))) (True ∧
  false = true ∧ (true && true) = true) (false = true ∧ (true && true) = true)) (false = true ∧ (true && true) = true)) (([] : List O) = [] ∧ True ∧ True ∧ sw (skipF n == decide ((128 : Int) ≤ n)) ((64 : Int) ≠ (0 : Int) ∧
  (2 : Int) ≠ (0 : Int) ∧ True ∧ True ∧ sw (tellF n == decide ((IntKind.u8.wrap (n.tdiv (64 : Int))).tmod (2 : Int) = (1 : Int))) (True ∧ false = true ∧ (true && true) = true) (false = true ∧
  (true && true) = true)) (false = true ∧ (true && true) = true))) (True ∧ sw (decide ((toHea (ChR.mk (y.getD (Int.toNat (0 : Int)) noCh).t (y.getD (Int.toNat (0 : Int)) noCh).f (y.getD (Int.toNat (0 : Int)) noCh).v)).snd = (0 : Int))) (True ∧
  ([] : List O) = [] ∧ True ∧ True ∧ sw (skipF n == decide ((128 : Int) ≤ n)) ((64 : Int) ≠ (0 : Int) ∧ (2 : Int) ≠ (0 : Int) ∧ True ∧ True ∧ sw (tellF n == decide ((IntKind.u8.wrap (n.tdiv (64 : Int))).tmod (2 : Int) = (1 : Int))) (True ∧
  false = true ∧ (true && true) = true) (false = true ∧ (true && true) = true)) (false = true ∧ (true && true) = true)) (([] : List O) = [] ∧ True ∧ True ∧ sw (skipF n == decide ((128 : Int) ≤ n)) ((64 : Int) ≠ (0 : Int) ∧
  (2 : Int) ≠ (0 : Int) ∧ True ∧ True ∧ sw (tellF n == decide ((IntKind.u8.wrap (n.tdiv (64 : Int))).tmod (2 : Int) = (1 : Int))) (True ∧ True ∧ sw (decide ((toHel (ChR.mk (y.getD (Int.toNat (0 : Int)) noCh).t (y.getD (Int.toNat (0 : Int)) noCh).f (y.getD (Int.toNat (0 : Int)) noCh).v)).snd = (0 : Int))) (True ∧
  sw (decide ((toPie (ChR.mk (y.getD (Int.toNat (0 : Int)) noCh).t (y.getD (Int.toNat (0 : Int)) noCh).f (y.getD (Int.toNat (0 : Int)) noCh).v)).snd = (0 : Int))) (True ∧
  sw (decide ((toHea (ChR.mk (y.getD (Int.toNat (0 : Int)) noCh).t (y.getD (Int.toNat (0 : Int)) noCh).f (y.getD (Int.toNat (0 : Int)) noCh).v)).snd = (0 : Int))) (true = true ∧
  (true && true) = true) (True ∧ decide ((toHea (ChR.mk (y.getD (Int.toNat (0 : Int)) noCh).t (y.getD (Int.toNat (0 : Int)) noCh).f (y.getD (Int.toNat (0 : Int)) noCh).v)).snd = (2 : Int)) = true ∧
  (true && true) = true)) (True ∧ sw (decide ((toPie (ChR.mk (y.getD (Int.toNat (0 : Int)) noCh).t (y.getD (Int.toNat (0 : Int)) noCh).f (y.getD (Int.toNat (0 : Int)) noCh).v)).snd = (2 : Int))) (True ∧
  sw (decide ((toHea (ChR.mk (y.getD (Int.toNat (0 : Int)) noCh).t (y.getD (Int.toNat (0 : Int)) noCh).f (y.getD (Int.toNat (0 : Int)) noCh).v)).snd = (0 : Int))) (true = true ∧
  (true && true) = true) (True ∧ decide ((toHea (ChR.mk (y.getD (Int.toNat (0 : Int)) noCh).t (y.getD (Int.toNat (0 : Int)) noCh).f (y.getD (Int.toNat (0 : Int)) noCh).v)).snd = (2 : Int)) = true ∧
  (true && true) = true)) (false = true ∧ (true && true) = true))) (True ∧ sw (decide ((toHel (ChR.mk (y.getD (Int.toNat (0 : Int)) noCh).t (y.getD (Int.toNat (0 : Int)) noCh).f (y.getD (Int.toNat (0 : Int)) noCh).v)).snd = (2 : Int))) (True ∧
  sw (decide ((toPie (ChR.mk (y.getD (Int.toNat (0 : Int)) noCh).t (y.getD (Int.toNat (0 : Int)) noCh).f (y.getD (Int.toNat (0 : Int)) noCh).v)).snd = (0 : Int))) (True ∧
  sw (decide ((toHea (ChR.mk (y.getD (Int.toNat (0 : Int)) noCh).t (y.getD (Int.toNat (0 : Int)) noCh).f (y.getD (Int.toNat (0 : Int)) noCh).v)).snd = (0 : Int))) (true = true ∧
  (true && true) = true) (True ∧ decide ((toHea (ChR.mk (y.getD (Int.toNat (0 : Int)) noCh).t (y.getD (Int.toNat (0 : Int)) noCh).f (y.getD (Int.toNat (0 : Int)) noCh).v)).snd = (2 : Int)) = true ∧
  (true && true) = true)) (True ∧ sw (decide ((toPie (ChR.mk (y.getD (Int.toNat (0 : Int)) noCh).t (y.getD (Int.toNat (0 : Int)) noCh).f (y.getD (Int.toNat (0 : Int)) noCh).v)).snd = (2 : Int))) (True ∧
  sw (decide ((toHea (ChR.mk (y.getD (Int.toNat (0 : Int)) noCh).t (y.getD (Int.toNat (0 : Int)) noCh).f (y.getD (Int.toNat (0 : Int)) noCh).v)).snd = (0 : Int))) (true = true ∧
  (true && true) = true) (True ∧ decide ((toHea (ChR.mk (y.getD (Int.toNat (0 : Int)) noCh).t (y.getD (Int.toNat (0 : Int)) noCh).f (y.getD (Int.toNat (0 : Int)) noCh).v)).snd = (2 : Int)) = true ∧
  (true && true) = true)) (false = true ∧ (true && true) = true))) (false = true ∧ (true && true) = true))) (false = true ∧ (true && true) = true)) (false = true ∧
  (true && true) = true)))) (True ∧ sw (decide ((toPie (ChR.mk (y.getD (Int.toNat (0 : Int)) noCh).t (y.getD (Int.toNat (0 : Int)) noCh).f (y.getD (Int.toNat (0 : Int)) noCh).v)).snd = (0 : Int))) (True ∧
  True ∧ sw (decide ((toHea (ChR.mk (y.getD (Int.toNat (0 : Int)) noCh).t (y.getD (Int.toNat (0 : Int)) noCh).f (y.getD (Int.toNat (0 : Int)) noCh).v)).snd = (0 : Int))) (True ∧
  ([] : List O) = [] ∧ True ∧ True ∧ sw (skipF n == decide ((128 : Int) ≤ n)) ((64 : Int) ≠ (0 : Int) ∧ (2 : Int) ≠ (0 : Int) ∧ True ∧ True ∧ sw (tellF n == decide ((IntKind.u8.wrap (n.tdiv (64 : Int))).tmod (2 : Int) = (1 : Int))) (True ∧
  false = true ∧ (true && true) = true) (false = true ∧ (true && true) = true)) (false = true ∧ (true && true) = true)) (([] : List O) = [] ∧ True ∧ True ∧ sw (skipF n == decide ((128 : Int) ≤ n)) ((64 : Int) ≠ (0 : Int) ∧
  (2 : Int) ≠ (0 : Int) ∧ True ∧ True ∧ sw (tellF n == decide ((IntKind.u8.wrap (n.tdiv (64 : Int))).tmod (2 : Int) = (1 : Int))) (True ∧ True ∧ sw (decide ((toHel (ChR.mk (y.getD (Int.toNat (0 : Int)) noCh).t (y.getD (Int.toNat (0 : Int)) noCh).f (y.getD (Int.toNat (0 : Int)) noCh).v)).snd = (0 : Int))) (True ∧
  sw (decide ((toPie (ChR.mk (y.getD (Int.toNat (0 : Int)) noCh).t (y.getD (Int.toNat (0 : Int)) noCh).f (y.getD (Int.toNat (0 : Int)) noCh).v)).snd = (0 : Int))) (True ∧
  sw (decide ((toHea (ChR.mk (y.getD (Int.toNat (0 : Int)) noCh).t (y.getD (Int.toNat (0 : Int)) noCh).f (y.getD (Int.toNat (0 : Int)) noCh).v)).snd = (0 : Int))) (true = true ∧
  (true && true) = true) (True ∧ decide ((toHea (ChR.mk (y.getD (Int.toNat (0 : Int)) noCh).t (y.getD (Int.toNat (0 : Int)) noCh).f (y.getD (Int.toNat (0 : Int)) noCh).v)).snd = (2 : Int)) = true ∧
  (true && true) = true)) (True ∧ sw (decide ((toPie (ChR.mk (y.getD (Int.toNat (0 : Int)) noCh).t (y.getD (Int.toNat (0 : Int)) noCh).f (y.getD (Int.toNat (0 : Int)) noCh).v)).snd = (2 : Int))) (True ∧
  sw (decide ((toHea (ChR.mk (y.getD (Int.toNat (0 : Int)) noCh).t (y.getD (Int.toNat (0 : Int)) noCh).f (y.getD (Int.toNat (0 : Int)) noCh).v)).snd = (0 : Int))) (true = true ∧
  (true && true) = true) (True ∧ decide ((toHea (ChR.mk (y.getD (Int.toNat (0 : Int)) noCh).t (y.getD (Int.toNat (0 : Int)) noCh).f (y.getD (Int.toNat (0 : Int)) noCh).v)).snd = (2 : Int)) = true ∧
  (true && true) = true)) (false = true ∧ (true && true) = true))) (True ∧ sw (decide ((toHel (ChR.mk (y.getD (Int.toNat (0 : Int)) noCh).t (y.getD (Int.toNat (0 : Int)) noCh).f (y.getD (Int.toNat (0 : Int)) noCh).v)).snd = (2 : Int))) (True ∧
  sw (decide ((toPie (ChR.mk (y.getD (Int.toNat (0 : Int)) noCh).t (y.getD (Int.toNat (0 : Int)) noCh).f (y.getD (Int.toNat (0 : Int)) noCh).v)).snd = (0 : Int))) (True ∧
  sw (decide ((toHea (ChR.mk (y.getD (Int.toNat (0 : Int)) noCh).t (y.getD (Int.toNat (0 : Int)) noCh).f (y.getD (Int.toNat (0 : Int)) noCh).v)).snd = (0 : Int))) (true = true ∧
  (true && true) = true) (True ∧ decide ((toHea (ChR.mk (y.getD (Int.toNat (0 : Int)) noCh).t (y.getD (Int.toNat (0 : Int)) noCh).f (y.getD (Int.toNat (0 : Int)) noCh).v)).snd = (2 : Int)) = true ∧
  (true && true) = true)) (True ∧ sw (decide ((toPie (ChR.mk (y.getD (Int.toNat (0 : Int)) noCh).t (y.getD (Int.toNat (0 : Int)) noCh).f (y.getD (Int.toNat (0 : Int)) noCh).v)).snd = (2 : Int))) (True ∧
  sw (decide ((toHea (ChR.mk (y.getD (Int.toNat (0 : Int)) noCh).t (y.getD (Int.toNat (0 : Int)) noCh).f (y.getD (Int.toNat (0 : Int)) noCh).v)).snd = (0 : Int))) (true = true ∧
  (true && true) = true) (True ∧ decide ((toHea (ChR.mk (y.getD (Int.toNat (0 : Int)) noCh).t (y.getD (Int.toNat (0 : Int)) noCh).f (y.getD (Int.toNat (0 : Int)) noCh).v)).snd = (2 : Int)) = true ∧
  (true && true) = true)) (false = true ∧ (true && true) = true))) (false = true ∧ (true && true) = true))) (false = true ∧ (true && true) = true)) (false = true ∧
  (true && true) = true))) (True ∧ sw (decide ((toHea (ChR.mk (y.getD (Int.toNat (0 : Int)) noCh).t (y.getD (Int.toNat (0 : Int)) noCh).f (y.getD (Int.toNat (0 : Int)) noCh).v)).snd = (0 : Int))) (True ∧
  ([] : List O) = [] ∧ True ∧ True ∧ sw (skipF n == decide ((128 : Int) ≤ n)) ((64 : Int) ≠ (0 : Int) ∧ (2 : Int) ≠ (0 : Int) ∧ True ∧ True ∧ sw (tellF n == decide ((IntKind.u8.wrap (n.tdiv (64 : Int))).tmod (2 : Int) = (1 : Int))) (True ∧
  True ∧ sw (decide ((toHel (ChR.mk (y.getD (Int.toNat (0 : Int)) noCh).t (y.getD (Int.toNat (0 : Int)) noCh).f (y.getD (Int.toNat (0 : Int)) noCh).v)).snd = (0 : Int))) (True ∧
  sw (decide ((toPie (ChR.mk (y.getD (Int.toNat (0 : Int)) noCh).t (y.getD (Int.toNat (0 : Int)) noCh).f (y.getD (Int.toNat (0 : Int)) noCh).v)).snd = (0 : Int))) (True ∧
  sw (decide ((toHea (ChR.mk (y.getD (Int.toNat (0 : Int)) noCh).t (y.getD (Int.toNat (0 : Int)) noCh).f (y.getD (Int.toNat (0 : Int)) noCh).v)).snd = (0 : Int))) (true = true ∧
  (true && true) = true) (True ∧ decide ((toHea (ChR.mk (y.getD (Int.toNat (0 : Int)) noCh).t (y.getD (Int.toNat (0 : Int)) noCh).f (y.getD (Int.toNat (0 : Int)) noCh).v)).snd = (2 : Int)) = true ∧
  (true && true) = true)) (True ∧ sw (decide ((toPie (ChR.mk (y.getD (Int.toNat (0 : Int)) noCh).t (y.getD (Int.toNat (0 : Int)) noCh).f (y.getD (Int.toNat (0 : Int)) noCh).v)).snd = (2 : Int))) (True ∧
  sw (decide ((toHea (ChR.mk (y.getD (Int.toNat (0 : Int)) noCh).t (y.getD (Int.toNat (0 : Int)) noCh).f (y.getD (Int.toNat (0 : Int)) noCh).v)).snd = (0 : Int))) (true = true ∧
  (true && true) = true) (True ∧ decide ((toHea (ChR.mk (y.getD (Int.toNat (0 : Int)) noCh).t (y.getD (Int.toNat (0 : Int)) noCh).f (y.getD (Int.toNat (0 : Int)) noCh).v)).snd = (2 : Int)) = true ∧
  (true && true) = true)) (false = true ∧ (true && true) = true))) (True ∧ sw (decide ((toHel (ChR.mk (y.getD (Int.toNat (0 : Int)) noCh).t (y.getD (Int.toNat (0 : Int)) noCh).f (y.getD (Int.toNat (0 : Int)) noCh).v)).snd = (2 : Int))) (True ∧
  sw (decide ((toPie (ChR.mk (y.getD (Int.toNat (0 : Int)) noCh).t (y.getD (Int.toNat (0 : Int)) noCh).f (y.getD (Int.toNat (0 : Int)) noCh).v)).snd = (0 : Int))) (True ∧
  sw (decide ((toHea (ChR.mk (y.getD (Int.toNat (0 : Int)) noCh).t (y.getD (Int.toNat (0 : Int)) noCh).f (y.getD (Int.toNat (0 : Int)) noCh).v)).snd = (0 : Int))) (true = true ∧
  (true && true) = true) (True ∧ decide ((toHea (ChR.mk (y.getD (Int.toNat (0 : Int)) noCh).t (y.getD (Int.toNat (0 : Int)) noCh).f (y.getD (Int.toNat (0 : Int)) noCh).v)).snd = (2 : Int)) = true ∧
  (true && true) = true)) (True ∧ sw (decide ((toPie (ChR.mk (y.getD (Int.toNat (0 : Int)) noCh).t (y.getD (Int.toNat (0 : Int)) noCh).f (y.getD (Int.toNat (0 : Int)) noCh).v)).snd = (2 : Int))) (True ∧
  sw (decide ((toHea (ChR.mk (y.getD (Int.toNat (0 : Int)) noCh).t (y.getD (Int.toNat (0 : Int)) noCh).f (y.getD (Int.toNat (0 : Int)) noCh).v)).snd = (0 : Int))) (true = true ∧
  (true && true) = true) (True ∧ decide ((toHea (ChR.mk (y.getD (Int.toNat (0 : Int)) noCh).t (y.getD (Int.toNat (0 : Int)) noCh).f (y.getD (Int.toNat (0 : Int)) noCh).v)).snd = (2 : Int)) = true ∧
  (true && true) = true)) (false = true ∧ (true && true) = true))) (false = true ∧ (true && true) = true))) (false = true ∧ (true && true) = true)) (false = true ∧
  (true && true) = true)) (([] : List O) = [] ∧ True ∧ True ∧ sw (skipF n == decide ((128 : Int) ≤ n)) ((64 : Int) ≠ (0 : Int) ∧ (2 : Int) ≠ (0 : Int) ∧ True ∧ True ∧
  sw (tellF n == decide ((IntKind.u8.wrap (n.tdiv (64 : Int))).tmod (2 : Int) = (1 : Int))) (True ∧ True ∧ sw (decide ((toHel (ChR.mk (y.getD (Int.toNat (0 : Int)) noCh).t (y.getD (Int.toNat (0 : Int)) noCh).f (y.getD (Int.toNat (0 : Int)) noCh).v)).snd = (0 : Int))) (True ∧
  sw (decide ((toPie (ChR.mk (y.getD (Int.toNat (0 : Int)) noCh).t (y.getD (Int.toNat (0 : Int)) noCh).f (y.getD (Int.toNat (0 : Int)) noCh).v)).snd = (0 : Int))) (True ∧
  sw (decide ((toHea (ChR.mk (y.getD (Int.toNat (0 : Int)) noCh).t (y.getD (Int.toNat (0 : Int)) noCh).f (y.getD (Int.toNat (0 : Int)) noCh).v)).snd = (0 : Int))) (true = true ∧
  (true && true) = true) (True ∧ decide ((toHea (ChR.mk (y.getD (Int.toNat (0 : Int)) noCh).t (y.getD (Int.toNat (0 : Int)) noCh).f (y.getD (Int.toNat (0 : Int)) noCh).v)).snd = (2 : Int)) = true ∧
  (true && true) = true)) (True ∧ sw (decide ((toPie (ChR.mk (y.getD (Int.toNat (0 : Int)) noCh).t (y.getD (Int.toNat (0 : Int)) noCh).f (y.getD (Int.toNat (0 : Int)) noCh).v)).snd = (2 : Int))) (True ∧
  sw (decide ((toHea (ChR.mk (y.getD (Int.toNat (0 : Int)) noCh).t (y.getD (Int.toNat (0 : Int)) noCh).f (y.getD (Int.toNat (0 : Int)) noCh).v)).snd = (0 : Int))) (true = true ∧
  (true && true) = true) (True ∧ decide ((toHea (ChR.mk (y.getD (Int.toNat (0 : Int)) noCh).t (y.getD (Int.toNat (0 : Int)) noCh).f (y.getD (Int.toNat (0 : Int)) noCh).v)).snd = (2 : Int)) = true ∧
  (true && true) = true)) (false = true ∧ (true && true) = true))) (True ∧ sw (decide ((toHel (ChR.mk (y.getD (Int.toNat (0 : Int)) noCh).t (y.getD (Int.toNat (0 : Int)) noCh).f (y.getD (Int.toNat (0 : Int)) noCh).v)).snd = (2 : Int))) (True ∧
  sw (decide ((toPie (ChR.mk (y.getD (Int.toNat (0 : Int)) noCh).t (y.getD (Int.toNat (0 : Int)) noCh).f (y.getD (Int.toNat (0 : Int)) noCh).v)).snd = (0 : Int))) (True ∧
  sw (decide ((toHea (ChR.mk (y.getD (Int.toNat (0 : Int)) noCh).t (y.getD (Int.toNat (0 : Int)) noCh).f (y.getD (Int.toNat (0 : Int)) noCh).v)).snd = (0 : Int))) (true = true ∧
  (true && true) = true) (True ∧ decide ((toHea (ChR.mk (y.getD (Int.toNat (0 : Int)) noCh).t (y.getD (Int.toNat (0 : Int)) noCh).f (y.getD (Int.toNat (0 : Int)) noCh).v)).snd = (2 : Int)) = true ∧
  (true && true) = true)) (True ∧ sw (decide ((toPie (ChR.mk (y.getD (Int.toNat (0 : Int)) noCh).t (y.getD (Int.toNat (0 : Int)) noCh).f (y.getD (Int.toNat (0 : Int)) noCh).v)).snd = (2 : Int))) (True ∧
  sw (decide ((toHea (ChR.mk (y.getD (Int.toNat (0 : Int)) noCh).t (y.getD (Int.toNat (0 : Int)) noCh).f (y.getD (Int.toNat (0 : Int)) noCh).v)).snd = (0 : Int))) (true = true ∧
  (true && true) = true) (True ∧ decide ((toHea (ChR.mk (y.getD (Int.toNat (0 : Int)) noCh).t (y.getD (Int.toNat (0 : Int)) noCh).f (y.getD (Int.toNat (0 : Int)) noCh).v)).snd = (2 : Int)) = true ∧
  (true && true) = true)) (false = true ∧ (true && true) = true))) (false = true ∧ (true && true) = true))) (false = true ∧ (true && true) = true)) (false = true ∧
  (true && true) = true)))) := by
  simp only [↓sw_iff, ↓Bool.and_eq_true, ↓decide_eq_true_eq, ↓decide_eq_false_iff_not, true_and, and_true, implies_true, List.getD_cons_zero, size45, ch_eta, chsOf_one, toNat0, reduceCtorEq]
  intro n c hn hc
  have tail : (∃ (l : List ChR) (A : D), [O.d (D.recs 3 1 fun i j => [D.v (Value.int IntKind.u8 c.t), D.v (Value.int IntKind.u8 c.f), D.ints IntKind.u8 c.v].getD (i * 3 + j) (D.v undef))] = [O.d A] ∧ asCh A l ∧ okChs l) :=
    ⟨[c], _, rfl, asCh_one c, by simp, fun d hd => by rw [List.mem_singleton.1 hd]; exact hc.2⟩
  have hcf := hc.1.2.1
  have e1 : (skipF n == decide (128 ≤ n)) = true := by unfold skipF; simp
  have e2 : (tellF n == decide (n / 64 % 2 = 1)) = true := by unfold tellF; simp
  have t1 := toHel_or c
  have t2 := toPie_or c
  have t3 := toHea_or c
  refine ⟨⟨n, rfl, hn⟩, tail, by omega, ⟨c, rfl, hc.1.2.2, hc.2⟩, tail, by omega, ⟨c, rfl, hc.1.2.2, hc.2, hcf⟩, tail, by omega, ⟨c, rfl, hc.1.2.2, hc.2, hcf⟩, ?_⟩
  rw [tell_eq hn.1 hn.2, e1, e2]
  rcases t1 with ⟨a, a'⟩ | a <;> rcases t2 with ⟨b, b'⟩ | b <;> rcases t3 with ⟨d, d'⟩ | d <;> first | (exfalso; omega) | (rw [a, b, d]; simp)
set_option maxRecDepth 100000 in
theorem ok13 : FnIs Try.prog 13 actLawC := by
  refine fnIs (C := (ctrs c33)) (by kernel_rfl) c33_ok Try.func13 (code := code13) (by kernel_rfl) (by kernel_rfl) ?_
  rintro a ⟨n, c, rfl, hn, hc⟩
  exact ⟨anns [] [12], kcast (vc13 n c hn hc) (by kernel_rfl)⟩

end Go.ZR
set_option maxRecDepth 100000
namespace Go.Proofs.Ytonfaeenoifomaa
open Go.ChangeShapes Go.WideShapes Go.ChangeAt Go.RowKit
open Go.Z Go.ZM Go.ZR

theorem chunkActions_law {H : Type} {enc : TypeId × Value → H} {W : World} {v0 v1 : Value} {d0 d1 : DataW H} {p0 p1 : List MemPlace}
    (hval : ∀ (j : Nat) t v, #[(5 : TypeId), 45][j]? = some t → #[v0, v1][j]? = some v → Value.okWide Try.prog W .any 0 t v)
    (t0 : DataW.Trod enc Try.prog W 0 (fun _ => true) true 5 v0 d0 p0) (t1 : DataW.Trod enc Try.prog W 0 (fun _ => true) true 45 v1 d1 p1)
    (k0 : Bnd 1048576 d0) (k1 : Bnd 1048576 d1) : Calls Try.prog 13 #[v0, v1] W fun e W' => e = .returned (.bool true) ∧ Below W.heap.size W W' := by
  obtain ⟨x0, h0, o0⟩ := open5 (hval 0 5 _ rfl rfl) t0 k0
  obtain ⟨x1, h1, o1⟩ := open45 (hval 1 45 _ rfl rfl) t1 k1
  exact ok13.law (A := fun _ => True) (ads := [iO .u8 x0, chO x1]) (vs := [v0, v1]) (ol_consO o0 (ol_consO o1 ol_nil)) ⟨x0, x1, rfl, h0, h1⟩ rfl

theorem chunkActions_lifted (os : Os) (started : os.Started) (H : Type) (enc : TypeId × Value → H) (F : Stop.Interp) :
    ReturnsInHanded {} Try.checked os 13 .any ((Rows.OpenSpec.upto Rows.chunkActionsSpec).pre6 enc Try.prog Try.f13 Rows.chunkActionsUptoRow.domain false) (((Rows.OpenSpec.upto Rows.chunkActionsSpec).at F).post enc Try.prog Try.f13 false true false false) := by
  refine returnsInHanded_of_cond (C := Try.checked) (s := Rows.OpenSpec.upto Rows.chunkActionsSpec) (k := Rows.uptoSmall) rfl Try.own started (by kernel_rfl) Try.func13
    (OpenSpec.witness (enc := enc) (C := Try.checked) (s := Rows.OpenSpec.upto Rows.chunkActionsSpec) (k := Rows.uptoSmall) rfl false ⟨#[], #[.int .u8 0, .agg #[.int .u8 0, .int .u8 0, .slice none 0 0]], []⟩ 8 (by kernel_rfl) (by kernel_rfl) (by kernel_rfl)
      (x := ([.lit (.int .u8 0), .agg [.lit (.int .u8 0), .lit (.int .u8 0), .nil]], [], [])) (by kernel_rfl) rfl (by kernel_rfl)) ?_
  intro W base args ds gs before hval0 hW _ hk _
  have hval : ∀ (j : Nat) t v, Try.f13.params[j]? = some t → args[j]? = some v → Value.okWide Try.prog W .any base t v := hval0
  have hW' := hW
  obtain ⟨p, q, hA0, hV, rfl, hfz, hnd⟩ := hW
  have hA : DataW.TrodAll enc Try.prog W 0 (fun _ => true) true Try.f13.params.toList args.toList ds p := hA0
  rw [Try.params13] at hA hval
  obtain ⟨v0, vs0, d0, ds0, p0, q0, hargs, rfl, rfl, h0, r0⟩ := trodAll_cons hA
  obtain ⟨v1, vs1, d1, ds1, p1, q1, rfl, rfl, rfl, h1, r1⟩ := trodAll_cons r0
  obtain ⟨rfl, rfl, rfl⟩ := trodAll_nil r1
  obtain rfl : args = #[v0, v1] := by cases args; simp_all
  obtain ⟨rfl, rfl⟩ := trodVars_none hV
  refine (chunkActions_law hval h0 h1 (bulk_in hk (by simp)) (bulk_in hk (by simp))).mono fun e W' ⟨he, hb⟩ => ?_
  subst he
  exact ⟨_, rfl, post_true (s := Rows.chunkActionsSpec) Try.laidOut (by kernel_rfl) rfl (by kernel_rfl) Try.underlying4 hW' ⟨rfl, rfl, rfl⟩ hb⟩

theorem chunkActions_holds : Rows.ChunkActionsUptoSaid :=
  OpenClaim.holds_of_cond 13 Try.f13 rfl rfl rfl rfl rfl rfl rfl ⟨rfl, rfl, rfl, rfl, rfl⟩ rfl rfl rfl rfl rfl (by kernel_rfl) Try.func13 (by kernel_rfl)
    (of_decide_eq_true (by kernel_rfl)) (by unfold Func.isWrapper; first | (rw [if_pos (by decide +kernel)]; kernel_rfl) | (rw [if_neg (by decide +kernel)]; exact ⟨rfl, rfl⟩))
    (fun os started H enc _ F => chunkActions_lifted os started H enc F)
end Go.Proofs.Ytonfaeenoifomaa
