/- Part 9 of what the closing text rests on. -/
import Derived.Test.YtonfaeenoifomaaH8
import Derived.Test.YtonfaeenoifomaaRows
/- A piece of a message: walked. -/
namespace Go.ZR
open Go.Proofs
open Go.Z Go.ZM Go.RowKit
set_option maxRecDepth 100000
theorem toNat12 : Int.toNat 12 = 12 := rfl
theorem pie_eta (p : PieR) : PieR.mk p.tsn p.str p.seq p.b p.e p.u p.bytes = p := rfl
theorem pie_w {p : PieR} (ok : okPie p) : IntKind.u64.wrap p.tsn = p.tsn ∧ IntKind.u64.wrap p.str = p.str ∧ IntKind.u64.wrap p.seq = p.seq := by
  obtain ⟨h1, h2, h3, _⟩ := ok
  exact ⟨u64_id h1.1 h1.2 (by decide), u64_id h2.1 h2.2 (by decide), u64_id h3.1 h3.2 (by decide)⟩
theorem fromPie_e1 {p : PieR} (e : p.bytes.length = 0 ∨ 8 ≤ p.str) : fromPie p = (noCh, 2) := by unfold fromPie; rw [if_pos e]
theorem fromPie_e2 {p : PieR} (e : ¬ (p.bytes.length = 0 ∨ 8 ≤ p.str)) (e' : 256 < p.bytes.length) : fromPie p = (noCh, 4) := by unfold fromPie; rw [if_neg e, if_pos e']
theorem fromPie_e3 {p : PieR} (e : ¬ (p.bytes.length = 0 ∨ 8 ≤ p.str)) (e' : ¬ 256 < p.bytes.length) : fromPie p = (⟨0, pieF p, pieB p⟩, 0) := by unfold fromPie; rw [if_neg e, if_neg e']
theorem pie_num_w {v : List Int} (hv : okB v) : IntKind.u32.wrap (numAt v 0 4) = numAt v 0 4 ∧ IntKind.u16.wrap (numAt v 4 2) = numAt v 4 2 ∧ IntKind.u16.wrap (numAt v 6 2) = numAt v 6 2 := by
  have a1 := num_rng hv 0 (k := 4)
  have a2 := num_rng hv 4 (k := 2)
  have a3 := num_rng hv 6 (k := 2)
  have p4 : (256 : Int) ^ 4 = 4294967296 := rfl
  have p2 : (256 : Int) ^ 2 = 65536 := rfl
  rw [p4] at a1
  rw [p2] at a2 a3
  refine ⟨?_, ?_, ?_⟩
  · rw [IntKind.wrap_u32]; omega
  · rw [IntKind.wrap_u16]; omega
  · rw [IntKind.wrap_u16]; omega
theorem pie1_eta (v : List Int) (f : Int) (X : List Int) : PieR.mk (numAt v 0 4) (numAt v 4 2) (numAt v 6 2) (decide (0 < bits BinOp.and IntKind.u8 f 2)) (decide (0 < bits BinOp.and IntKind.u8 f 1)) (decide (0 < bits BinOp.and IntKind.u8 f 4)) X = pie1 v f X := rfl
theorem pieRef_eta (c : ChR) : PieR.mk (numAt c.v 0 4) (numAt c.v 4 2) (numAt c.v 6 2) (decide (c.f / 2 % 2 = 1)) (decide (c.f % 2 = 1)) (decide (4 ≤ c.f)) (c.v.drop 12) = pieRef c := rfl
theorem get_err {v : List Int} {i k : Nat} : decide ((getF v (i : Int) k).2 = 0) = decide (i + k ≤ v.length) := by
  rw [decide_eq_decide]
  unfold getF partF
  rw [if_neg (by omega)]
  split
  · exact ⟨fun h => absurd h (by decide), fun h => by omega⟩
  · exact ⟨fun _ => by omega, fun _ => rfl⟩
theorem pie_bad (v : List Int) : (!decide ((getF v 0 4).snd = 0) || !decide ((getF v 4 2).snd = 0) || !decide ((getF v 6 2).snd = 0) || !decide ((getF v 8 4).snd = 0)) = !decide (12 ≤ v.length) := by
  rw [show decide ((getF v 0 4).snd = 0) = _ from get_err (i := 0), show decide ((getF v 4 2).snd = 0) = _ from get_err (i := 4), show decide ((getF v 6 2).snd = 0) = _ from get_err (i := 6), show decide ((getF v 8 4).snd = 0) = _ from get_err (i := 8)]
  by_cases h : 12 ≤ v.length
  · simp; omega
  · simp; omega
theorem toPie_e1 {c : ChR} {p : PieR} (ho : pieOf c = p) (e : (!decide ((fromPie p).2 = 0) || !sameB (fromPie p).1 c) = true) : toPie c = (noPie, 2) := by
  subst ho; unfold toPie; rw [if_pos]
  simpa using e
theorem toPie_e2 {c : ChR} {p : PieR} (ho : pieOf c = p) (e : (!decide ((fromPie p).2 = 0) || !sameB (fromPie p).1 c) = false) : toPie c = (p, 0) := by
  subst ho; unfold toPie; rw [if_neg]
  simpa using e
theorem perr_leaf {r : PieR × Int} (h : r = (noPie, 2)) : 0 = r.1.tsn ∧ 0 = r.1.str ∧ 0 = r.1.seq ∧ false = r.1.b ∧ false = r.1.e ∧ false = r.1.u ∧ r.1.bytes = [] ∧ 2 = r.2 := by rw [h]; exact ⟨rfl, rfl, rfl, rfl, rfl, rfl, rfl, rfl⟩
theorem pok_leaf {r : PieR × Int} {p : PieR} (h : r = (p, 0)) : p.tsn = r.1.tsn ∧ p.str = r.1.str ∧ p.seq = r.1.seq ∧ p.b = r.1.b ∧ p.e = r.1.e ∧ p.u = r.1.u ∧ p.bytes = r.1.bytes ∧ 0 = r.2 := by rw [h]; exact ⟨rfl, rfl, rfl, rfl, rfl, rfl, rfl, rfl⟩
noncomputable def code52 : Code := match Try.f52.body with | some c => c | none => .skip
set_option maxHeartbeats 4000000 in
theorem vc52 : ∀ (b : Bool) (n : Int), sw b (n = flagF b n ∧ (true && true) = true) ((0 : Int) = flagF b n ∧ (true && true) = true) := by
  simp only [↓sw_iff, ↓Bool.and_eq_true, and_true]
  intro b n
  unfold flagF
  exact ⟨fun h => by rw [h]; rfl, fun h => by rw [h]; rfl⟩
set_option maxRecDepth 100000 in
theorem ok52 : FnIs Try.prog 52 flagC := by
  refine fnIs (C := (ctrs c0)) (by kernel_rfl) c0_ok Try.func52 (code := code52) (by kernel_rfl) (by kernel_rfl) ?_
  rintro a ⟨b, n, rfl⟩
  exact ⟨anns [], kcast (vc52 b n) (by kernel_rfl)⟩

theorem c18_ok : COk Try.prog (ctrs c18) := cok_cons ok45 (cok_cons ok52 cok_nil)

noncomputable def code23 : Code := match Try.f23.body with | some c => c | none => .skip
set_option maxHeartbeats 4000000 in
theorem vc23 : ∀ (p : PieR), okPie p → True ∧ sw (!decide ((↑p.bytes.length : Int) = (0 : Int))) (SV.p (1 : Nat) (1 : Nat) = SV.p (1 : Nat) (1 : Nat)) True ∧ sw (!decide ((↑p.bytes.length : Int) = (0 : Int))) ([!decide ((↑p.bytes.length : Int) = (0 : Int))] = [!decide ((↑p.bytes.length : Int) = (0 : Int))] ∧
  SV.c (Value.int IntKind.u16 p.str) = SV.c (Value.int IntKind.u16 p.str)) True ∧ sw (!decide ((↑p.bytes.length : Int) = (0 : Int))) ([!decide ((↑p.bytes.length : Int) = (0 : Int))] = [!decide ((↑p.bytes.length : Int) = (0 : Int))] ∧
  True ∧ SV.c (Value.bool (decide ((8 : Int) ≤ p.str))) = SV.c (Value.bool (decide ((8 : Int) ≤ p.str)))) True ∧ [!decide ((↑p.bytes.length : Int) = (0 : Int))] = [!decide ((↑p.bytes.length : Int) = (0 : Int))] ∧
  sw (decide ((↑p.bytes.length : Int) = (0 : Int)) || decide ((8 : Int) ≤ p.str)) ((0 : Int) = (fromPie (PieR.mk p.tsn p.str p.seq p.b p.e p.u p.bytes)).fst.t ∧
  (0 : Int) = (fromPie (PieR.mk p.tsn p.str p.seq p.b p.e p.u p.bytes)).fst.f ∧ (fromPie (PieR.mk p.tsn p.str p.seq p.b p.e p.u p.bytes)).fst.v = [] ∧ (2 : Int) = (fromPie (PieR.mk p.tsn p.str p.seq p.b p.e p.u p.bytes)).snd ∧
  (true && true) = true) (True ∧ sw (decide ((256 : Int) < (↑p.bytes.length : Int))) ((0 : Int) = (fromPie (PieR.mk p.tsn p.str p.seq p.b p.e p.u p.bytes)).fst.t ∧
  (0 : Int) = (fromPie (PieR.mk p.tsn p.str p.seq p.b p.e p.u p.bytes)).fst.f ∧ (fromPie (PieR.mk p.tsn p.str p.seq p.b p.e p.u p.bytes)).fst.v = [] ∧ (4 : Int) = (fromPie (PieR.mk p.tsn p.str p.seq p.b p.e p.u p.bytes)).snd ∧
  (true && true) = true) (((∃ (b : List Int), ∃ (n : Int), ∃ (k : Nat), [O.d (D.ints IntKind.u8 []), O.d (D.v (Value.int IntKind.u64 (IntKind.u64.wrap p.tsn))), O.d (D.v (Value.int IntKind.i64 (4 : Int)))] = [O.d (D.ints IntKind.u8 b), O.d (D.v (Value.int IntKind.u64 n)), O.d (D.v (Value.int IntKind.i64 (↑k : Int)))] ∧
  sm b.length ∧ (1 : Nat) ≤ k ∧ k ≤ (8 : Nat)) ∧ ((∃ (b : List Int), ∃ (n : Int), ∃ (k : Nat), [O.d (D.ints IntKind.u8 ([] ++ be (IntKind.u64.wrap p.tsn) (Int.toNat (4 : Int)))), O.d (D.v (Value.int IntKind.u64 (IntKind.u64.wrap p.str))), O.d (D.v (Value.int IntKind.i64 (2 : Int)))] = [O.d (D.ints IntKind.u8 b), O.d (D.v (Value.int IntKind.u64 n)), O.d (D.v (Value.int IntKind.i64 (↑k : Int)))] ∧
  sm b.length ∧ (1 : Nat) ≤ k ∧ k ≤ (8 : Nat)) ∧ ((∃ (b : List Int), ∃ (n : Int), ∃ (k : Nat), [O.d (D.ints IntKind.u8 ([] ++ be (IntKind.u64.wrap p.tsn) (Int.toNat (4 : Int)) ++ be (IntKind.u64.wrap p.str) (Int.toNat (2 : Int)))), O.d (D.v (Value.int IntKind.u64 (IntKind.u64.wrap p.seq))), O.d (D.v (Value.int IntKind.i64 (2 : Int)))] = [O.d (D.ints IntKind.u8 b), O.d (D.v (Value.int IntKind.u64 n)), O.d (D.v (Value.int IntKind.i64 (↑k : Int)))] ∧
  sm b.length ∧ (1 : Nat) ≤ k ∧ k ≤ (8 : Nat)) ∧ ((∃ (b : Bool), ∃ (n : Int), [O.d (D.v (Value.bool p.u)), O.d (D.v (Value.int IntKind.u8 (4 : Int)))] = [O.d (D.v (Value.bool b)), O.d (D.v (Value.int IntKind.u8 n))]) ∧
  ((∃ (b : Bool), ∃ (n : Int), [O.d (D.v (Value.bool p.b)), O.d (D.v (Value.int IntKind.u8 (2 : Int)))] = [O.d (D.v (Value.bool b)), O.d (D.v (Value.int IntKind.u8 n))]) ∧
  True ∧ ((∃ (b : Bool), ∃ (n : Int), [O.d (D.v (Value.bool p.e)), O.d (D.v (Value.int IntKind.u8 (1 : Int)))] = [O.d (D.v (Value.bool b)), O.d (D.v (Value.int IntKind.u8 n))]) ∧
  True ∧ ((∃ (b : List Int), ∃ (n : Int), ∃ (k : Nat), [O.d (D.ints IntKind.u8 ([] ++ be (IntKind.u64.wrap p.tsn) (Int.toNat (4 : Int)) ++ be (IntKind.u64.wrap p.str) (Int.toNat (2 : Int)) ++ be (IntKind.u64.wrap p.seq) (Int.toNat (2 : Int)))), O.d (D.v (Value.int IntKind.u64 (46 : Int))), O.d (D.v (Value.int IntKind.i64 (4 : Int)))] = [O.d (D.ints IntKind.u8 b), O.d (D.v (Value.int IntKind.u64 n)), O.d (D.v (Value.int IntKind.i64 (↑k : Int)))] ∧
  sm b.length ∧ (1 : Nat) ≤ k ∧ k ≤ (8 : Nat)) ∧ (True ∧ ((12 : Nat) + p.bytes.length) * Try.prog.types[(5 : Nat)].bytes ≤ (140737488355328 : Nat) ∧ ((0 : Int) = (fromPie (PieR.mk p.tsn p.str p.seq p.b p.e p.u p.bytes)).fst.t ∧
  bits BinOp.or IntKind.u8 (bits BinOp.or IntKind.u8 (flagF p.u (4 : Int)) (flagF p.b (2 : Int))) (flagF p.e (1 : Int)) = (fromPie (PieR.mk p.tsn p.str p.seq p.b p.e p.u p.bytes)).fst.f ∧
  [] ++ be (IntKind.u64.wrap p.tsn) (Int.toNat (4 : Int)) ++ be (IntKind.u64.wrap p.str) (Int.toNat (2 : Int)) ++ be (IntKind.u64.wrap p.seq) (Int.toNat (2 : Int)) ++ be (46 : Int) (Int.toNat (4 : Int)) ++ p.bytes = (fromPie (PieR.mk p.tsn p.str p.seq p.b p.e p.u p.bytes)).fst.v ∧
  (0 : Int) = (fromPie (PieR.mk p.tsn p.str p.seq p.b p.e p.u p.bytes)).snd ∧ (!false && true && true) = true) ∧ True) ∧ True) ∧ True) ∧ True) ∧ True) ∧ True) ∧
  True) ∧ True) ∧ True)) := by
  simp only [↓sw_iff, ↓Bool.and_eq_true, ↓decide_eq_true_eq, ↓decide_eq_false_iff_not, ↓Bool.not_eq_true', ↓Bool.not_eq_false', true_and, and_true, implies_true, List.nil_append, Nat.mul_one, bytes5, toNat2, toNat4, pie_eta, flag_or]
  intro p ok
  obtain ⟨w1, w2, w3⟩ := pie_w ok
  have hs : sm p.bytes.length := ok.2.2.2.2
  simp only [w1, w2, w3, Bool.or_eq_true, Bool.or_eq_false_iff, decide_eq_true_eq, decide_eq_false_iff_not]
  refine ⟨fun h => leaf0 (fromPie_e1 (by omega)), fun h => ⟨fun h' => leaf0 (fromPie_e2 (by omega) (by omega)), fun h' => ?_⟩⟩
  rw [fromPie_e3 (p := p) (by omega) (by omega)]
  repeat' apply And.intro
  all_goals first
    | rfl
    | exact ⟨_, _, rfl⟩
    | exact ⟨_, _, 4, rfl, by unfold sm; simp [be_len], by decide, by decide⟩
    | exact ⟨_, _, 2, rfl, by unfold sm; simp [be_len], by decide, by decide⟩
    | (unfold sm at hs; omega)
set_option maxRecDepth 100000 in
theorem ok23 : FnIs Try.prog 23 fromPieC := by
  refine fnIs (C := (ctrs c18)) (by kernel_rfl) c18_ok Try.func23 (code := code23) (by kernel_rfl) (by kernel_rfl) ?_
  rintro a ⟨p, rfl, ok⟩
  exact ⟨anns [], kcast (vc23 p ok) (by kernel_rfl)⟩

noncomputable def code24 : Code := match Try.f24.body with | some c => c | none => .skip
set_option maxHeartbeats 4000000 in
theorem vc24 : ∀ (p : PieR), okPie p → True ∧ sw (!decide ((↑p.bytes.length : Int) = (0 : Int))) (SV.p (1 : Nat) (1 : Nat) = SV.p (1 : Nat) (1 : Nat)) True ∧ sw (!decide ((↑p.bytes.length : Int) = (0 : Int))) ([!decide ((↑p.bytes.length : Int) = (0 : Int))] = [!decide ((↑p.bytes.length : Int) = (0 : Int))] ∧
  SV.c (Value.int IntKind.u16 p.str) = SV.c (Value.int IntKind.u16 p.str)) True ∧ sw (!decide ((↑p.bytes.length : Int) = (0 : Int))) ([!decide ((↑p.bytes.length : Int) = (0 : Int))] = [!decide ((↑p.bytes.length : Int) = (0 : Int))] ∧
  True ∧ SV.c (Value.bool (decide ((8 : Int) ≤ p.str))) = SV.c (Value.bool (decide ((8 : Int) ≤ p.str)))) True ∧ [!decide ((↑p.bytes.length : Int) = (0 : Int))] = [!decide ((↑p.bytes.length : Int) = (0 : Int))] ∧
  sw (decide ((↑p.bytes.length : Int) = (0 : Int)) || decide ((8 : Int) ≤ p.str)) ((0 : Int) = (fromPie (PieR.mk p.tsn p.str p.seq p.b p.e p.u p.bytes)).fst.t ∧
  (0 : Int) = (fromPie (PieR.mk p.tsn p.str p.seq p.b p.e p.u p.bytes)).fst.f ∧ (fromPie (PieR.mk p.tsn p.str p.seq p.b p.e p.u p.bytes)).fst.v = [] ∧ (2 : Int) = (fromPie (PieR.mk p.tsn p.str p.seq p.b p.e p.u p.bytes)).snd ∧
  (true && true) = true) (True ∧ sw (decide ((256 : Int) < (↑p.bytes.length : Int))) ((0 : Int) = (fromPie (PieR.mk p.tsn p.str p.seq p.b p.e p.u p.bytes)).fst.t ∧
  (0 : Int) = (fromPie (PieR.mk p.tsn p.str p.seq p.b p.e p.u p.bytes)).fst.f ∧ (fromPie (PieR.mk p.tsn p.str p.seq p.b p.e p.u p.bytes)).fst.v = [] ∧ (4 : Int) = (fromPie (PieR.mk p.tsn p.str p.seq p.b p.e p.u p.bytes)).snd ∧
  (true && true) = true) (sw p.u (True ∧ sw p.b (True ∧ sw p.e (True ∧ (∃ (b : List Int), ∃ (n : Int), ∃ (k : Nat), [O.d (D.ints IntKind.u8 []), O.d (D.v (Value.int IntKind.u64 (IntKind.u64.wrap p.tsn))), O.d (D.v (Value.int IntKind.i64 (4 : Int)))] = [O.d (D.ints IntKind.u8 b), O.d (D.v (Value.int IntKind.u64 n)), O.d (D.v (Value.int IntKind.i64 (↑k : Int)))] ∧
  sm b.length ∧ (1 : Nat) ≤ k ∧ k ≤ (8 : Nat)) ∧ (∃ (b : List Int), ∃ (n : Int), ∃ (k : Nat), [O.d (D.ints IntKind.u8 ([] ++ be (IntKind.u64.wrap p.tsn) (Int.toNat (4 : Int)))), O.d (D.v (Value.int IntKind.u64 (IntKind.u64.wrap p.str))), O.d (D.v (Value.int IntKind.i64 (2 : Int)))] = [O.d (D.ints IntKind.u8 b), O.d (D.v (Value.int IntKind.u64 n)), O.d (D.v (Value.int IntKind.i64 (↑k : Int)))] ∧
  sm b.length ∧ (1 : Nat) ≤ k ∧ k ≤ (8 : Nat)) ∧ (∃ (b : List Int), ∃ (n : Int), ∃ (k : Nat), [O.d (D.ints IntKind.u8 ([] ++ be (IntKind.u64.wrap p.tsn) (Int.toNat (4 : Int)) ++ be (IntKind.u64.wrap p.str) (Int.toNat (2 : Int)))), O.d (D.v (Value.int IntKind.u64 (IntKind.u64.wrap p.seq))), O.d (D.v (Value.int IntKind.i64 (2 : Int)))] = [O.d (D.ints IntKind.u8 b), O.d (D.v (Value.int IntKind.u64 n)), O.d (D.v (Value.int IntKind.i64 (↑k : Int)))] ∧
  sm b.length ∧ (1 : Nat) ≤ k ∧ k ≤ (8 : Nat)) ∧ (∃ (b : List Int), ∃ (n : Int), ∃ (k : Nat), [O.d (D.ints IntKind.u8 ([] ++ be (IntKind.u64.wrap p.tsn) (Int.toNat (4 : Int)) ++ be (IntKind.u64.wrap p.str) (Int.toNat (2 : Int)) ++ be (IntKind.u64.wrap p.seq) (Int.toNat (2 : Int)))), O.d (D.v (Value.int IntKind.u64 (46 : Int))), O.d (D.v (Value.int IntKind.i64 (4 : Int)))] = [O.d (D.ints IntKind.u8 b), O.d (D.v (Value.int IntKind.u64 n)), O.d (D.v (Value.int IntKind.i64 (↑k : Int)))] ∧
  sm b.length ∧ (1 : Nat) ≤ k ∧ k ≤ (8 : Nat)) ∧ True ∧ ((12 : Nat) + p.bytes.length) * Try.prog.types[(5 : Nat)].bytes ≤ (140737488355328 : Nat) ∧ (0 : Int) = (fromPie (PieR.mk p.tsn p.str p.seq p.b p.e p.u p.bytes)).fst.t ∧
  IntKind.u8.wrap (IntKind.i64.wrap (IntKind.i64.wrap (IntKind.i64.wrap ((0 : Int) + (4 : Int)) + (2 : Int)) + (1 : Int))) = (fromPie (PieR.mk p.tsn p.str p.seq p.b p.e p.u p.bytes)).fst.f ∧
  [] ++ be (IntKind.u64.wrap p.tsn) (Int.toNat (4 : Int)) ++ be (IntKind.u64.wrap p.str) (Int.toNat (2 : Int)) ++ be (IntKind.u64.wrap p.seq) (Int.toNat (2 : Int)) ++ be (46 : Int) (Int.toNat (4 : Int)) ++ p.bytes = (fromPie (PieR.mk p.tsn p.str p.seq p.b p.e p.u p.bytes)).fst.v ∧
  (0 : Int) = (fromPie (PieR.mk p.tsn p.str p.seq p.b p.e p.u p.bytes)).snd ∧ (!false && true && true) = true) ((∃ (b : List Int), ∃ (n : Int), ∃ (k : Nat), [O.d (D.ints IntKind.u8 []), O.d (D.v (Value.int IntKind.u64 (IntKind.u64.wrap p.tsn))), O.d (D.v (Value.int IntKind.i64 (4 : Int)))] = [O.d (D.ints IntKind.u8 b), O.d (D.v (Value.int IntKind.u64 n)), O.d (D.v (Value.int IntKind.i64 (↑k : Int)))] ∧
  sm b.length ∧ (1 : Nat) ≤ k ∧ k ≤ (8 : Nat)) ∧ (∃ (b : List Int), ∃ (n : Int), ∃ (k : Nat), [O.d (D.ints IntKind.u8 ([] ++ be (IntKind.u64.wrap p.tsn) (Int.toNat (4 : Int)))), O.d (D.v (Value.int IntKind.u64 (IntKind.u64.wrap p.str))), O.d (D.v (Value.int IntKind.i64 (2 : Int)))] = [O.d (D.ints IntKind.u8 b), O.d (D.v (Value.int IntKind.u64 n)), O.d (D.v (Value.int IntKind.i64 (↑k : Int)))] ∧
  sm b.length ∧ (1 : Nat) ≤ k ∧ k ≤ (8 : Nat)) ∧ (∃ (b : List Int), ∃ (n : Int), ∃ (k : Nat), [O.d (D.ints IntKind.u8 ([] ++ be (IntKind.u64.wrap p.tsn) (Int.toNat (4 : Int)) ++ be (IntKind.u64.wrap p.str) (Int.toNat (2 : Int)))), O.d (D.v (Value.int IntKind.u64 (IntKind.u64.wrap p.seq))), O.d (D.v (Value.int IntKind.i64 (2 : Int)))] = [O.d (D.ints IntKind.u8 b), O.d (D.v (Value.int IntKind.u64 n)), O.d (D.v (Value.int IntKind.i64 (↑k : Int)))] ∧
  sm b.length ∧ (1 : Nat) ≤ k ∧ k ≤ (8 : Nat)) ∧ (∃ (b : List Int), ∃ (n : Int), ∃ (k : Nat), [O.d (D.ints IntKind.u8 ([] ++ be (IntKind.u64.wrap p.tsn) (Int.toNat (4 : Int)) ++ be (IntKind.u64.wrap p.str) (Int.toNat (2 : Int)) ++ be (IntKind.u64.wrap p.seq) (Int.toNat (2 : Int)))), O.d (D.v (Value.int IntKind.u64 (46 : Int))), O.d (D.v (Value.int IntKind.i64 (4 : Int)))] = [O.d (D.ints IntKind.u8 b), O.d (D.v (Value.int IntKind.u64 n)), O.d (D.v (Value.int IntKind.i64 (↑k : Int)))] ∧
  sm b.length ∧ (1 : Nat) ≤ k ∧ k ≤ (8 : Nat)) ∧ True ∧ ((12 : Nat) + p.bytes.length) * Try.prog.types[(5 : Nat)].bytes ≤ (140737488355328 : Nat) ∧ (0 : Int) = (fromPie (PieR.mk p.tsn p.str p.seq p.b p.e p.u p.bytes)).fst.t ∧
  IntKind.u8.wrap (IntKind.i64.wrap (IntKind.i64.wrap ((0 : Int) + (4 : Int)) + (2 : Int))) = (fromPie (PieR.mk p.tsn p.str p.seq p.b p.e p.u p.bytes)).fst.f ∧
  [] ++ be (IntKind.u64.wrap p.tsn) (Int.toNat (4 : Int)) ++ be (IntKind.u64.wrap p.str) (Int.toNat (2 : Int)) ++ be (IntKind.u64.wrap p.seq) (Int.toNat (2 : Int)) ++ be (46 : Int) (Int.toNat (4 : Int)) ++ p.bytes = (fromPie (PieR.mk p.tsn p.str p.seq p.b p.e p.u p.bytes)).fst.v ∧
  (0 : Int) = (fromPie (PieR.mk p.tsn p.str p.seq p.b p.e p.u p.bytes)).snd ∧ (!false && true && true) = true)) (sw p.e (True ∧ (∃ (b : List Int), ∃ (n : Int), ∃ (k : Nat), [O.d (D.ints IntKind.u8 []), O.d (D.v (Value.int IntKind.u64 (IntKind.u64.wrap p.tsn))), O.d (D.v (Value.int IntKind.i64 (4 : Int)))] = [O.d (D.ints IntKind.u8 b), O.d (D.v (Value.int IntKind.u64 n)), O.d (D.v (Value.int IntKind.i64 (↑k : Int)))] ∧
  sm b.length ∧ (1 : Nat) ≤ k ∧ k ≤ (8 : Nat)) ∧ (∃ (b : List Int), ∃ (n : Int), ∃ (k : Nat), [O.d (D.ints IntKind.u8 ([] ++ be (IntKind.u64.wrap p.tsn) (Int.toNat (4 : Int)))), O.d (D.v (Value.int IntKind.u64 (IntKind.u64.wrap p.str))), O.d (D.v (Value.int IntKind.i64 (2 : Int)))] = [O.d (D.ints IntKind.u8 b), O.d (D.v (Value.int IntKind.u64 n)), O.d (D.v (Value.int IntKind.i64 (↑k : Int)))] ∧
  sm b.length ∧ (1 : Nat) ≤ k ∧ k ≤ (8 : Nat)) ∧ (∃ (b : List Int), ∃ (n : Int), ∃ (k : Nat), [O.d (D.ints IntKind.u8 ([] ++ be (IntKind.u64.wrap p.tsn) (Int.toNat (4 : Int)) ++ be (IntKind.u64.wrap p.str) (Int.toNat (2 : Int)))), O.d (D.v (Value.int IntKind.u64 (IntKind.u64.wrap p.seq))), O.d (D.v (Value.int IntKind.i64 (2 : Int)))] = [O.d (D.ints IntKind.u8 b), O.d (D.v (Value.int IntKind.u64 n)), O.d (D.v (Value.int IntKind.i64 (↑k : Int)))] ∧
  sm b.length ∧ (1 : Nat) ≤ k ∧ k ≤ (8 : Nat)) ∧ (∃ (b : List Int), ∃ (n : Int), ∃ (k : Nat), [O.d (D.ints IntKind.u8 ([] ++ be (IntKind.u64.wrap p.tsn) (Int.toNat (4 : Int)) ++ be (IntKind.u64.wrap p.str) (Int.toNat (2 : Int)) ++ be (IntKind.u64.wrap p.seq) (Int.toNat (2 : Int)))), O.d (D.v (Value.int IntKind.u64 (46 : Int))), O.d (D.v (Value.int IntKind.i64 (4 : Int)))] = [O.d (D.ints IntKind.u8 b), O.d (D.v (Value.int IntKind.u64 n)), O.d (D.v (Value.int IntKind.i64 (↑k : Int)))] ∧
  sm b.length ∧ (1 : Nat) ≤ k ∧ k ≤ (8 : Nat)) ∧ True ∧ ((12 : Nat) + p.bytes.length) * Try.prog.types[(5 : Nat)].bytes ≤ (140737488355328 : Nat) ∧ (0 : Int) = (fromPie (PieR.mk p.tsn p.str p.seq p.b p.e p.u p.bytes)).fst.t ∧
  IntKind.u8.wrap (IntKind.i64.wrap (IntKind.i64.wrap ((0 : Int) + (4 : Int)) + (1 : Int))) = (fromPie (PieR.mk p.tsn p.str p.seq p.b p.e p.u p.bytes)).fst.f ∧
  [] ++ be (IntKind.u64.wrap p.tsn) (Int.toNat (4 : Int)) ++ be (IntKind.u64.wrap p.str) (Int.toNat (2 : Int)) ++ be (IntKind.u64.wrap p.seq) (Int.toNat (2 : Int)) ++ be (46 : Int) (Int.toNat (4 : Int)) ++ p.bytes = (fromPie (PieR.mk p.tsn p.str p.seq p.b p.e p.u p.bytes)).fst.v ∧
  (0 : Int) = (fromPie (PieR.mk p.tsn p.str p.seq p.b p.e p.u p.bytes)).snd ∧ (!false && true && true) = true) ((∃ (b : List Int), ∃ (n : Int), ∃ (k : Nat), [O.d (D.ints IntKind.u8 []), O.d (D.v (Value.int IntKind.u64 (IntKind.u64.wrap p.tsn))), O.d (D.v (Value.int IntKind.i64 (4 : Int)))] = [O.d (D.ints IntKind.u8 b), O.d (D.v (Value.int IntKind.u64 n)), O.d (D.v (Value.int IntKind.i64 (↑k : Int)))] ∧
  sm b.length ∧ (1 : Nat) ≤ k ∧ k ≤ (8 : Nat)) ∧ (∃ (b : List Int), ∃ (n : Int), ∃ (k : Nat), [O.d (D.ints IntKind.u8 ([] ++ be (IntKind.u64.wrap p.tsn) (Int.toNat (4 : Int)))), O.d (D.v (Value.int IntKind.u64 (IntKind.u64.wrap p.str))), O.d (D.v (Value.int IntKind.i64 (2 : Int)))] = [O.d (D.ints IntKind.u8 b), O.d (D.v (Value.int IntKind.u64 n)), O.d (D.v (Value.int IntKind.i64 (↑k : Int)))] ∧
  sm b.length ∧ (1 : Nat) ≤ k ∧ k ≤ (8 : Nat)) ∧ (∃ (b : List Int), ∃ (n : Int), ∃ (k : Nat), [O.d (D.ints IntKind.u8 ([] ++ be (IntKind.u64.wrap p.tsn) (Int.toNat (4 : Int)) ++ be (IntKind.u64.wrap p.str) (Int.toNat (2 : Int)))), O.d (D.v (Value.int IntKind.u64 (IntKind.u64.wrap p.seq))), O.d (D.v (Value.int IntKind.i64 (2 : Int)))] = [O.d (D.ints IntKind.u8 b), O.d (D.v (Value.int IntKind.u64 n)), O.d (D.v (Value.int IntKind.i64 (↑k : Int)))] ∧
  sm b.length ∧ (1 : Nat) ≤ k ∧ k ≤ (8 : Nat)) ∧ (∃ (b : List Int), ∃ (n : Int), ∃ (k : Nat), [O.d (D.ints IntKind.u8 ([] ++ be (IntKind.u64.wrap p.tsn) (Int.toNat (4 : Int)) ++ be (IntKind.u64.wrap p.str) (Int.toNat (2 : Int)) ++ be (IntKind.u64.wrap p.seq) (Int.toNat (2 : Int)))), O.d (D.v (Value.int IntKind.u64 (46 : Int))), O.d (D.v (Value.int IntKind.i64 (4 : Int)))] = [O.d (D.ints IntKind.u8 b), O.d (D.v (Value.int IntKind.u64 n)), O.d (D.v (Value.int IntKind.i64 (↑k : Int)))] ∧
  sm b.length ∧ (1 : Nat) ≤ k ∧ k ≤ (8 : Nat)) ∧ True ∧ ((12 : Nat) + p.bytes.length) * Try.prog.types[(5 : Nat)].bytes ≤ (140737488355328 : Nat) ∧ (0 : Int) = (fromPie (PieR.mk p.tsn p.str p.seq p.b p.e p.u p.bytes)).fst.t ∧
  IntKind.u8.wrap (IntKind.i64.wrap ((0 : Int) + (4 : Int))) = (fromPie (PieR.mk p.tsn p.str p.seq p.b p.e p.u p.bytes)).fst.f ∧ [] ++ be (IntKind.u64.wrap p.tsn) (Int.toNat (4 : Int)) ++ be (IntKind.u64.wrap p.str) (Int.toNat (2 : Int)) ++ be (IntKind.u64.wrap p.seq) (Int.toNat (2 : Int)) ++ be (46 : Int) (Int.toNat (4 : Int)) ++ p.bytes = (fromPie (PieR.mk p.tsn p.str p.seq p.b p.e p.u p.bytes)).fst.v ∧
  (0 : Int) = (fromPie (PieR.mk p.tsn p.str p.seq p.b p.e p.u p.bytes)).snd ∧ (!false && true && true) = true))) (sw p.b (True ∧ sw p.e (True ∧ (∃ (b : List Int), ∃ (n : Int), ∃ (k : Nat), [O.d (D.ints IntKind.u8 []), O.d (D.v (Value.int IntKind.u64 (IntKind.u64.wrap p.tsn))), O.d (D.v (Value.int IntKind.i64 (4 : Int)))] = [O.d (D.ints IntKind.u8 b), O.d (D.v (Value.int IntKind.u64 n)), O.d (D.v (Value.int IntKind.i64 (↑k : Int)))] ∧
  sm b.length ∧ (1 : Nat) ≤ k ∧ k ≤ (8 : Nat)) ∧ (∃ (b : List Int), ∃ (n : Int), ∃ (k : Nat), [O.d (D.ints IntKind.u8 ([] ++ be (IntKind.u64.wrap p.tsn) (Int.toNat (4 : Int)))), O.d (D.v (Value.int IntKind.u64 (IntKind.u64.wrap p.str))), O.d (D.v (Value.int IntKind.i64 (2 : Int)))] = [O.d (D.ints IntKind.u8 b), O.d (D.v (Value.int IntKind.u64 n)), O.d (D.v (Value.int IntKind.i64 (↑k : Int)))] ∧
  sm b.length ∧ (1 : Nat) ≤ k ∧ k ≤ (8 : Nat)) ∧ (∃ (b : List Int), ∃ (n : Int), ∃ (k : Nat), [O.d (D.ints IntKind.u8 ([] ++ be (IntKind.u64.wrap p.tsn) (Int.toNat (4 : Int)) ++ be (IntKind.u64.wrap p.str) (Int.toNat (2 : Int)))), O.d (D.v (Value.int IntKind.u64 (IntKind.u64.wrap p.seq))), O.d (D.v (Value.int IntKind.i64 (2 : Int)))] = [O.d (D.ints IntKind.u8 b), O.d (D.v (Value.int IntKind.u64 n)), O.d (D.v (Value.int IntKind.i64 (↑k : Int)))] ∧
  sm b.length ∧ (1 : Nat) ≤ k ∧ k ≤ (8 : Nat)) ∧ (∃ (b : List Int), ∃ (n : Int), ∃ (k : Nat), [O.d (D.ints IntKind.u8 ([] ++ be (IntKind.u64.wrap p.tsn) (Int.toNat (4 : Int)) ++ be (IntKind.u64.wrap p.str) (Int.toNat (2 : Int)) ++ be (IntKind.u64.wrap p.seq) (Int.toNat (2 : Int)))), O.d (D.v (Value.int IntKind.u64 (46 : Int))), O.d (D.v (Value.int IntKind.i64 (4 : Int)))] = [O.d (D.ints IntKind.u8 b), O.d (D.v (Value.int IntKind.u64 n)), O.d (D.v (Value.int IntKind.i64 (↑k : Int)))] ∧
  sm b.length ∧ (1 : Nat) ≤ k ∧ k ≤ (8 : Nat)) ∧ True ∧ ((12 : Nat) + p.bytes.length) * Try.prog.types[(5 : Nat)].bytes ≤ (140737488355328 : Nat) ∧ (0 : Int) = (fromPie (PieR.mk p.tsn p.str p.seq p.b p.e p.u p.bytes)).fst.t ∧
  IntKind.u8.wrap (IntKind.i64.wrap (IntKind.i64.wrap ((0 : Int) + (2 : Int)) + (1 : Int))) = (fromPie (PieR.mk p.tsn p.str p.seq p.b p.e p.u p.bytes)).fst.f ∧
  [] ++ be (IntKind.u64.wrap p.tsn) (Int.toNat (4 : Int)) ++ be (IntKind.u64.wrap p.str) (Int.toNat (2 : Int)) ++ be (IntKind.u64.wrap p.seq) (Int.toNat (2 : Int)) ++ be (46 : Int) (Int.toNat (4 : Int)) ++ p.bytes = (fromPie (PieR.mk p.tsn p.str p.seq p.b p.e p.u p.bytes)).fst.v ∧
  (0 : Int) = (fromPie (PieR.mk p.tsn p.str p.seq p.b p.e p.u p.bytes)).snd ∧ (!false && true && true) = true) ((∃ (b : List Int), ∃ (n : Int), ∃ (k : Nat), [O.d (D.ints IntKind.u8 []), O.d (D.v (Value.int IntKind.u64 (IntKind.u64.wrap p.tsn))), O.d (D.v (Value.int IntKind.i64 (4 : Int)))] = [O.d (D.ints IntKind.u8 b), O.d (D.v (Value.int IntKind.u64 n)), O.d (D.v (Value.int IntKind.i64 (↑k : Int)))] ∧
  sm b.length ∧ (1 : Nat) ≤ k ∧ k ≤ (8 : Nat)) ∧ (∃ (b : List Int), ∃ (n : Int), ∃ (k : Nat), [O.d (D.ints IntKind.u8 ([] ++ be (IntKind.u64.wrap p.tsn) (Int.toNat (4 : Int)))), O.d (D.v (Value.int IntKind.u64 (IntKind.u64.wrap p.str))), O.d (D.v (Value.int IntKind.i64 (2 : Int)))] = [O.d (D.ints IntKind.u8 b), O.d (D.v (Value.int IntKind.u64 n)), O.d (D.v (Value.int IntKind.i64 (↑k : Int)))] ∧
  sm b.length ∧ (1 : Nat) ≤ k ∧ k ≤ (8 : Nat)) ∧ (∃ (b : List Int), ∃ (n : Int), ∃ (k : Nat), [O.d (D.ints IntKind.u8 ([] ++ be (IntKind.u64.wrap p.tsn) (Int.toNat (4 : Int)) ++ be (IntKind.u64.wrap p.str) (Int.toNat (2 : Int)))), O.d (D.v (Value.int IntKind.u64 (IntKind.u64.wrap p.seq))), O.d (D.v (Value.int IntKind.i64 (2 : Int)))] = [O.d (D.ints IntKind.u8 b), O.d (D.v (Value.int IntKind.u64 n)), O.d (D.v (Value.int IntKind.i64 (↑k : Int)))] ∧
  sm b.length ∧ (1 : Nat) ≤ k ∧ k ≤ (8 : Nat)) ∧ (∃ (b : List Int), ∃ (n : Int), ∃ (k : Nat), [O.d (D.ints IntKind.u8 ([] ++ be (IntKind.u64.wrap p.tsn) (Int.toNat (4 : Int)) ++ be (IntKind.u64.wrap p.str) (Int.toNat (2 : Int)) ++ be (IntKind.u64.wrap p.seq) (Int.toNat (2 : Int)))), O.d (D.v (Value.int IntKind.u64 (46 : Int))), O.d (D.v (Value.int IntKind.i64 (4 : Int)))] = [O.d (D.ints IntKind.u8 b), O.d (D.v (Value.int IntKind.u64 n)), O.d (D.v (Value.int IntKind.i64 (↑k : Int)))] ∧
  sm b.length ∧ (1 : Nat) ≤ k ∧ k ≤ (8 : Nat)) ∧ True ∧ ((12 : Nat) + p.bytes.length) * Try.prog.types[(5 : Nat)].bytes ≤ (140737488355328 : Nat) ∧ (0 : Int) = (fromPie (PieR.mk p.tsn p.str p.seq p.b p.e p.u p.bytes)).fst.t ∧
  IntKind.u8.wrap (IntKind.i64.wrap ((0 : Int) + (2 : Int))) = (fromPie (PieR.mk p.tsn p.str p.seq p.b p.e p.u p.bytes)).fst.f ∧ [] ++ be (IntKind.u64.wrap p.tsn) (Int.toNat (4 : Int)) ++ be (IntKind.u64.wrap p.str) (Int.toNat (2 : Int)) ++ be (IntKind.u64.wrap p.seq) (Int.toNat (2 : Int)) ++ be (46 : Int) (Int.toNat (4 : Int)) ++ p.bytes = (fromPie (PieR.mk p.tsn p.str p.seq p.b p.e p.u p.bytes)).fst.v ∧
  (0 : Int) = (fromPie (PieR.mk p.tsn p.str p.seq p.b p.e p.u p.bytes)).snd ∧ (!false && true && true) = true)) (sw p.e (True ∧ (∃ (b : List Int), ∃ (n : Int), ∃ (k : Nat), [O.d (D.ints IntKind.u8 []), O.d (D.v (Value.int IntKind.u64 (IntKind.u64.wrap p.tsn))), O.d (D.v (Value.int IntKind.i64 (4 : Int)))] = [O.d (D.ints IntKind.u8 b), O.d (D.v (Value.int IntKind.u64 n)), O.d (D.v (Value.int IntKind.i64 (↑k : Int)))] ∧
  sm b.length ∧ (1 : Nat) ≤ k ∧ k ≤ (8 : Nat)) ∧ (∃ (b : List Int), ∃ (n : Int), ∃ (k : Nat), [O.d (D.ints IntKind.u8 ([] ++ be (IntKind.u64.wrap p.tsn) (Int.toNat (4 : Int)))), O.d (D.v (Value.int IntKind.u64 (IntKind.u64.wrap p.str))), O.d (D.v (Value.int IntKind.i64 (2 : Int)))] = [O.d (D.ints IntKind.u8 b), O.d (D.v (Value.int IntKind.u64 n)), O.d (D.v (Value.int IntKind.i64 (↑k : Int)))] ∧
  sm b.length ∧ (1 : Nat) ≤ k ∧ k ≤ (8 : Nat)) ∧ (∃ (b : List Int), ∃ (n : Int), ∃ (k : Nat), [O.d (D.ints IntKind.u8 ([] ++ be (IntKind.u64.wrap p.tsn) (Int.toNat (4 : Int)) ++ be (IntKind.u64.wrap p.str) (Int.toNat (2 : Int)))), O.d (D.v (Value.int IntKind.u64 (IntKind.u64.wrap p.seq))), O.d (D.v (Value.int IntKind.i64 (2 : Int)))] = [O.d (D.ints IntKind.u8 b), O.d (D.v (Value.int IntKind.u64 n)), O.d (D.v (Value.int IntKind.i64 (↑k : Int)))] ∧
  sm b.length ∧ (1 : Nat) ≤ k ∧ k ≤ (8 : Nat)) ∧ (∃ (b : List Int), ∃ (n : Int), ∃ (k : Nat), [O.d (D.ints IntKind.u8 ([] ++ be (IntKind.u64.wrap p.tsn) (Int.toNat (4 : Int)) ++ be (IntKind.u64.wrap p.str) (Int.toNat (2 : Int)) ++ be (IntKind.u64.wrap p.seq) (Int.toNat (2 : Int)))), O.d (D.v (Value.int IntKind.u64 (46 : Int))), O.d (D.v (Value.int IntKind.i64 (4 : Int)))] = [O.d (D.ints IntKind.u8 b), O.d (D.v (Value.int IntKind.u64 n)), O.d (D.v (Value.int IntKind.i64 (↑k : Int)))] ∧
  sm b.length ∧ (1 : Nat) ≤ k ∧ k ≤ (8 : Nat)) ∧ True ∧ ((12 : Nat) + p.bytes.length) * Try.prog.types[(5 : Nat)].bytes ≤ (140737488355328 : Nat) ∧ (0 : Int) = (fromPie (PieR.mk p.tsn p.str p.seq p.b p.e p.u p.bytes)).fst.t ∧
  IntKind.u8.wrap (IntKind.i64.wrap ((0 : Int) + (1 : Int))) = (fromPie (PieR.mk p.tsn p.str p.seq p.b p.e p.u p.bytes)).fst.f ∧ [] ++ be (IntKind.u64.wrap p.tsn) (Int.toNat (4 : Int)) ++ be (IntKind.u64.wrap p.str) (Int.toNat (2 : Int)) ++ be (IntKind.u64.wrap p.seq) (Int.toNat (2 : Int)) ++ be (46 : Int) (Int.toNat (4 : Int)) ++ p.bytes = (fromPie (PieR.mk p.tsn p.str p.seq p.b p.e p.u p.bytes)).fst.v ∧
  (0 : Int) = (fromPie (PieR.mk p.tsn p.str p.seq p.b p.e p.u p.bytes)).snd ∧ (!false && true && true) = true) ((∃ (b : List Int), ∃ (n : Int), ∃ (k : Nat), [O.d (D.ints IntKind.u8 []), O.d (D.v (Value.int IntKind.u64 (IntKind.u64.wrap p.tsn))), O.d (D.v (Value.int IntKind.i64 (4 : Int)))] = [O.d (D.ints IntKind.u8 b), O.d (D.v (Value.int IntKind.u64 n)), O.d (D.v (Value.int IntKind.i64 (↑k : Int)))] ∧
  sm b.length ∧ (1 : Nat) ≤ k ∧ k ≤ (8 : Nat)) ∧ (∃ (b : List Int), ∃ (n : Int), ∃ (k : Nat), [O.d (D.ints IntKind.u8 ([] ++ be (IntKind.u64.wrap p.tsn) (Int.toNat (4 : Int)))), O.d (D.v (Value.int IntKind.u64 (IntKind.u64.wrap p.str))), O.d (D.v (Value.int IntKind.i64 (2 : Int)))] = [O.d (D.ints IntKind.u8 b), O.d (D.v (Value.int IntKind.u64 n)), O.d (D.v (Value.int IntKind.i64 (↑k : Int)))] ∧
  sm b.length ∧ (1 : Nat) ≤ k ∧ k ≤ (8 : Nat)) ∧ (∃ (b : List Int), ∃ (n : Int), ∃ (k : Nat), [O.d (D.ints IntKind.u8 ([] ++ be (IntKind.u64.wrap p.tsn) (Int.toNat (4 : Int)) ++ be (IntKind.u64.wrap p.str) (Int.toNat (2 : Int)))), O.d (D.v (Value.int IntKind.u64 (IntKind.u64.wrap p.seq))), O.d (D.v (Value.int IntKind.i64 (2 : Int)))] = [O.d (D.ints IntKind.u8 b), O.d (D.v (Value.int IntKind.u64 n)), O.d (D.v (Value.int IntKind.i64 (↑k : Int)))] ∧
  sm b.length ∧ (1 : Nat) ≤ k ∧ k ≤ (8 : Nat)) ∧ (∃ (b : List Int), ∃ (n : Int), ∃ (k : Nat), [O.d (D.ints IntKind.u8 ([] ++ be (IntKind.u64.wrap p.tsn) (Int.toNat (4 : Int)) ++ be (IntKind.u64.wrap p.str) (Int.toNat (2 : Int)) ++ be (IntKind.u64.wrap p.seq) (Int.toNat (2 : Int)))), O.d (D.v (Value.int IntKind.u64 (46 : Int))), O.d (D.v (Value.int IntKind.i64 (4 : Int)))] = [O.d (D.ints IntKind.u8 b), O.d (D.v (Value.int IntKind.u64 n)), O.d (D.v (Value.int IntKind.i64 (↑k : Int)))] ∧
  sm b.length ∧ (1 : Nat) ≤ k ∧ k ≤ (8 : Nat)) ∧ True ∧ ((12 : Nat) + p.bytes.length) * Try.prog.types[(5 : Nat)].bytes ≤ (140737488355328 : Nat) ∧ (0 : Int) = (fromPie (PieR.mk p.tsn p.str p.seq p.b p.e p.u p.bytes)).fst.t ∧
  IntKind.u8.wrap (0 : Int) = (fromPie (PieR.mk p.tsn p.str p.seq p.b p.e p.u p.bytes)).fst.f ∧ [] ++ be (IntKind.u64.wrap p.tsn) (Int.toNat (4 : Int)) ++ be (IntKind.u64.wrap p.str) (Int.toNat (2 : Int)) ++ be (IntKind.u64.wrap p.seq) (Int.toNat (2 : Int)) ++ be (46 : Int) (Int.toNat (4 : Int)) ++ p.bytes = (fromPie (PieR.mk p.tsn p.str p.seq p.b p.e p.u p.bytes)).fst.v ∧
  (0 : Int) = (fromPie (PieR.mk p.tsn p.str p.seq p.b p.e p.u p.bytes)).snd ∧ (!false && true && true) = true))))) := by
  simp only [↓sw_iff, ↓Bool.and_eq_true, ↓decide_eq_true_eq, ↓decide_eq_false_iff_not, ↓Bool.not_eq_true', ↓Bool.not_eq_false', true_and, and_true, implies_true, List.nil_append, Nat.mul_one, bytes5, toNat2, toNat4, pie_eta, Int.reduceAdd]
  intro p ok
  obtain ⟨w1, w2, w3⟩ := pie_w ok
  have hs : sm p.bytes.length := ok.2.2.2.2
  simp only [w1, w2, w3, Bool.or_eq_true, Bool.or_eq_false_iff, decide_eq_true_eq, decide_eq_false_iff_not]
  refine ⟨fun h => leaf0 (fromPie_e1 (by omega)), fun h => ⟨fun h' => leaf0 (fromPie_e2 (by omega) (by omega)), fun h' => ?_⟩⟩
  rw [fromPie_e3 (p := p) (by omega) (by omega)]
  refine ⟨fun hu => ⟨fun hb => ⟨fun he => ?_, fun he => ?_⟩, fun hb => ⟨fun he => ?_, fun he => ?_⟩⟩, fun hu => ⟨fun hb => ⟨fun he => ?_, fun he => ?_⟩, fun hb => ⟨fun he => ?_, fun he => ?_⟩⟩⟩
  all_goals
    repeat' apply And.intro
    all_goals first
      | (unfold pieF; rw [hu, hb, he]; rfl)
      | rfl
      | exact ⟨_, _, rfl⟩
      | exact ⟨_, _, 4, rfl, by unfold sm; simp [be_len], by decide, by decide⟩
      | exact ⟨_, _, 2, rfl, by unfold sm; simp [be_len], by decide, by decide⟩
      | (unfold sm at hs; omega)
set_option maxRecDepth 100000 in
theorem ok24 : FnIs Try.prog 24 fromPieC := by
  refine fnIs (C := (ctrs c6)) (by kernel_rfl) c6_ok Try.func24 (code := code24) (by kernel_rfl) (by kernel_rfl) ?_
  rintro a ⟨p, rfl, ok⟩
  exact ⟨anns [] [5,6,8,10], kcast (vc24 p ok) (by kernel_rfl)⟩

theorem c19_ok : COk Try.prog (ctrs c19) := cok_cons ok53 (cok_cons ok54 (cok_cons ok23 (cok_cons ok55 cok_nil)))

noncomputable def code26 : Code := match Try.f26.body with | some c => c | none => .skip
set_option maxHeartbeats 4000000 in
theorem vc26 : ∀ (c : ChR), let y := numAt c.v (0 : Int) (Int.toNat (4 : Int)); let y_1 := numAt c.v ((0 : Int) + (4 : Int)) (Int.toNat (2 : Int)); let y_2 := numAt c.v ((0 : Int) + (4 : Int) + (2 : Int)) (Int.toNat (2 : Int));
  let y_3 := fromPie (PieR.mk (IntKind.u32.wrap y) (IntKind.u16.wrap y_1) (IntKind.u16.wrap y_2) (decide ((0 : Int) < bits BinOp.and IntKind.u8 c.f (2 : Int))) (decide ((0 : Int) < bits BinOp.and IntKind.u8 c.f (1 : Int))) (decide ((0 : Int) < bits BinOp.and IntKind.u8 c.f (4 : Int))) []);
  let y_4 := fromPie (PieR.mk (IntKind.u32.wrap y) (IntKind.u16.wrap y_1) (IntKind.u16.wrap y_2) (decide ((0 : Int) < bits BinOp.and IntKind.u8 c.f (2 : Int))) (decide ((0 : Int) < bits BinOp.and IntKind.u8 c.f (1 : Int))) (decide ((0 : Int) < bits BinOp.and IntKind.u8 c.f (4 : Int))) (List.drop ((0 : Int) + (4 : Int) + (2 : Int) + (2 : Int) + (4 : Int)).toNat c.v));
  okB c.v → sm c.v.length → (0 : Int) ≤ c.f → c.f ≤ (255 : Int) → True ∧ True ∧ True ∧ True ∧ True ∧ True ∧ ((∃ (v : List Int), ∃ (i : Int), ∃ (b : Bool), ∃ (k : Nat), [O.ptr (90 : Nat) [O.d (D.ints IntKind.u8 c.v), O.d (D.v (Value.int IntKind.i64 (0 : Int))), O.d (D.v (Value.bool false))], O.d (D.v (Value.int IntKind.i64 (4 : Int)))] = [O.ptr (90 : Nat) [O.d (D.ints IntKind.u8 v), O.d (D.v (Value.int IntKind.i64 i)), O.d (D.v (Value.bool b))], O.d (D.v (Value.int IntKind.i64 (↑k : Int)))] ∧
  sm v.length ∧ okB v ∧ (0 : Int) ≤ i ∧ i ≤ (1099511627776 : Int) ∧ (1 : Nat) ≤ k ∧ k ≤ (8 : Nat)) ∧ ((∃ (v : List Int), ∃ (i : Int), ∃ (b : Bool), ∃ (k : Nat), [O.ptr (90 : Nat) [O.d (D.ints IntKind.u8 c.v), O.d (D.v (Value.int IntKind.i64 ((0 : Int) + (4 : Int)))), O.d (D.v (Value.bool (false || !decide ((getF c.v (0 : Int) (Int.toNat (4 : Int))).snd = (0 : Int)))))], O.d (D.v (Value.int IntKind.i64 (2 : Int)))] = [O.ptr (90 : Nat) [O.d (D.ints IntKind.u8 v), O.d (D.v (Value.int IntKind.i64 i)), O.d (D.v (Value.bool b))], O.d (D.v (Value.int IntKind.i64 (↑k : Int)))] ∧
  sm v.length ∧ okB v ∧ (0 : Int) ≤ i ∧ i ≤ (1099511627776 : Int) ∧ (1 : Nat) ≤ k ∧ k ≤ (8 : Nat)) ∧ ((∃ (v : List Int), ∃ (i : Int), ∃ (b : Bool), ∃ (k : Nat), [O.ptr (90 : Nat) [O.d (D.ints IntKind.u8 c.v), O.d (D.v (Value.int IntKind.i64 ((0 : Int) + (4 : Int) + (2 : Int)))), O.d (D.v (Value.bool (false || !decide ((getF c.v (0 : Int) (Int.toNat (4 : Int))).snd = (0 : Int)) || !decide ((getF c.v ((0 : Int) + (4 : Int)) (Int.toNat (2 : Int))).snd = (0 : Int)))))], O.d (D.v (Value.int IntKind.i64 (2 : Int)))] = [O.ptr (90 : Nat) [O.d (D.ints IntKind.u8 v), O.d (D.v (Value.int IntKind.i64 i)), O.d (D.v (Value.bool b))], O.d (D.v (Value.int IntKind.i64 (↑k : Int)))] ∧
  sm v.length ∧ okB v ∧ (0 : Int) ≤ i ∧ i ≤ (1099511627776 : Int) ∧ (1 : Nat) ≤ k ∧ k ≤ (8 : Nat)) ∧ (((∃ (v : List Int), ∃ (i : Int), ∃ (b : Bool), ∃ (k : Nat), [O.ptr (90 : Nat) [O.d (D.ints IntKind.u8 c.v), O.d (D.v (Value.int IntKind.i64 ((0 : Int) + (4 : Int) + (2 : Int) + (2 : Int)))), O.d (D.v (Value.bool (false || !decide ((getF c.v (0 : Int) (Int.toNat (4 : Int))).snd = (0 : Int)) || !decide ((getF c.v ((0 : Int) + (4 : Int)) (Int.toNat (2 : Int))).snd = (0 : Int)) || !decide ((getF c.v ((0 : Int) + (4 : Int) + (2 : Int)) (Int.toNat (2 : Int))).snd = (0 : Int)))))], O.d (D.v (Value.int IntKind.i64 (4 : Int)))] = [O.ptr (90 : Nat) [O.d (D.ints IntKind.u8 v), O.d (D.v (Value.int IntKind.i64 i)), O.d (D.v (Value.bool b))], O.d (D.v (Value.int IntKind.i64 (↑k : Int)))] ∧
  sm v.length ∧ okB v ∧ (0 : Int) ≤ i ∧ i ≤ (1099511627776 : Int) ∧ (1 : Nat) ≤ k ∧ k ≤ (8 : Nat)) ∧ sw (!(false || !decide ((getF c.v (0 : Int) (Int.toNat (4 : Int))).snd = (0 : Int)) || !decide ((getF c.v ((0 : Int) + (4 : Int)) (Int.toNat (2 : Int))).snd = (0 : Int)) || !decide ((getF c.v ((0 : Int) + (4 : Int) + (2 : Int)) (Int.toNat (2 : Int))).snd = (0 : Int)) || !decide ((getF c.v ((0 : Int) + (4 : Int) + (2 : Int) + (2 : Int)) (Int.toNat (4 : Int))).snd = (0 : Int)))) (((0 : Int) ≤ (0 : Int) + (4 : Int) + (2 : Int) + (2 : Int) + (4 : Int) ∧
  (0 : Int) + (4 : Int) + (2 : Int) + (2 : Int) + (4 : Int) ≤ (↑c.v.length : Int)) ∧ ((∃ (l : List Int), [O.d (D.ints IntKind.u8 (List.drop ((0 : Int) + (4 : Int) + (2 : Int) + (2 : Int) + (4 : Int)).toNat c.v))] = [O.d (D.ints IntKind.u8 l)] ∧
  sm l.length) ∧ ((∃ (p : PieR), [O.agg [O.d (D.v (Value.int IntKind.u32 (IntKind.u32.wrap y))), O.d (D.v (Value.int IntKind.u16 (IntKind.u16.wrap y_1))), O.d (D.v (Value.int IntKind.u16 (IntKind.u16.wrap y_2))), O.d (D.v (Value.bool (decide ((0 : Int) < bits BinOp.and IntKind.u8 c.f (2 : Int))))), O.d (D.v (Value.bool (decide ((0 : Int) < bits BinOp.and IntKind.u8 c.f (1 : Int))))), O.d (D.v (Value.bool (decide ((0 : Int) < bits BinOp.and IntKind.u8 c.f (4 : Int))))), O.d (D.ints IntKind.u8 (List.drop ((0 : Int) + (4 : Int) + (2 : Int) + (2 : Int) + (4 : Int)).toNat c.v))]] = [O.agg [O.d (D.v (Value.int IntKind.u32 p.tsn)), O.d (D.v (Value.int IntKind.u16 p.str)), O.d (D.v (Value.int IntKind.u16 p.seq)), O.d (D.v (Value.bool p.b)), O.d (D.v (Value.bool p.e)), O.d (D.v (Value.bool p.u)), O.d (D.ints IntKind.u8 p.bytes)]] ∧
  okPie p) ∧ True ∧ sw (!!decide (y_4.snd = (0 : Int))) (SV.agg [SV.c (Value.int IntKind.u8 y_4.fst.t), SV.c (Value.int IntKind.u8 y_4.fst.f), SV.a (11 : Nat)] = SV.agg [SV.c (Value.int IntKind.u8 y_4.fst.t), SV.c (Value.int IntKind.u8 y_4.fst.f), SV.a (11 : Nat)]) True ∧
  sw (!!decide (y_4.snd = (0 : Int))) (SV.agg [SV.c (Value.int IntKind.u8 c.t), SV.c (Value.int IntKind.u8 c.f), SV.a (0 : Nat)] = SV.agg [SV.c (Value.int IntKind.u8 c.t), SV.c (Value.int IntKind.u8 c.f), SV.a (0 : Nat)]) True ∧
  sw (!!decide (y_4.snd = (0 : Int))) ([!!decide (y_4.snd = (0 : Int))] = [!!decide (y_4.snd = (0 : Int))] ∧ [!!decide (y_4.snd = (0 : Int))] = [!!decide (y_4.snd = (0 : Int))] ∧
  (∃ (c_1 : ChR), ∃ (d : ChR), [O.agg [O.d (D.v (Value.int IntKind.u8 y_4.fst.t)), O.d (D.v (Value.int IntKind.u8 y_4.fst.f)), O.d (D.ints IntKind.u8 y_4.fst.v)], O.agg [O.d (D.v (Value.int IntKind.u8 c.t)), O.d (D.v (Value.int IntKind.u8 c.f)), O.d (D.ints IntKind.u8 c.v)]] = [O.agg [O.d (D.v (Value.int IntKind.u8 c_1.t)), O.d (D.v (Value.int IntKind.u8 c_1.f)), O.d (D.ints IntKind.u8 c_1.v)], O.agg [O.d (D.v (Value.int IntKind.u8 d.t)), O.d (D.v (Value.int IntKind.u8 d.f)), O.d (D.ints IntKind.u8 d.v)]] ∧
  okCh c_1) ∧ SV.c (Value.bool (sameB (ChR.mk y_4.fst.t y_4.fst.f y_4.fst.v) (ChR.mk c.t c.f c.v))) = SV.c (Value.bool (sameB (ChR.mk y_4.fst.t y_4.fst.f y_4.fst.v) (ChR.mk c.t c.f c.v)))) True ∧
  sw (!!decide (y_4.snd = (0 : Int))) ([!!decide (y_4.snd = (0 : Int))] = [!!decide (y_4.snd = (0 : Int))] ∧ SV.c (Value.bool !sameB (ChR.mk y_4.fst.t y_4.fst.f y_4.fst.v) (ChR.mk c.t c.f c.v)) = SV.c (Value.bool !sameB (ChR.mk y_4.fst.t y_4.fst.f y_4.fst.v) (ChR.mk c.t c.f c.v))) True ∧
  [!!decide (y_4.snd = (0 : Int))] = [!!decide (y_4.snd = (0 : Int))] ∧ sw (!decide (y_4.snd = (0 : Int)) || !sameB (ChR.mk y_4.fst.t y_4.fst.f y_4.fst.v) (ChR.mk c.t c.f c.v)) ((0 : Int) = (toPie (ChR.mk c.t c.f c.v)).fst.tsn ∧
  (0 : Int) = (toPie (ChR.mk c.t c.f c.v)).fst.str ∧ (0 : Int) = (toPie (ChR.mk c.t c.f c.v)).fst.seq ∧ false = (toPie (ChR.mk c.t c.f c.v)).fst.b ∧ false = (toPie (ChR.mk c.t c.f c.v)).fst.e ∧
  false = (toPie (ChR.mk c.t c.f c.v)).fst.u ∧ (toPie (ChR.mk c.t c.f c.v)).fst.bytes = [] ∧ (2 : Int) = (toPie (ChR.mk c.t c.f c.v)).snd ∧ (true && true) = true) (IntKind.u32.wrap y = (toPie (ChR.mk c.t c.f c.v)).fst.tsn ∧
  IntKind.u16.wrap y_1 = (toPie (ChR.mk c.t c.f c.v)).fst.str ∧ IntKind.u16.wrap y_2 = (toPie (ChR.mk c.t c.f c.v)).fst.seq ∧ decide ((0 : Int) < bits BinOp.and IntKind.u8 c.f (2 : Int)) = (toPie (ChR.mk c.t c.f c.v)).fst.b ∧
  decide ((0 : Int) < bits BinOp.and IntKind.u8 c.f (1 : Int)) = (toPie (ChR.mk c.t c.f c.v)).fst.e ∧ decide ((0 : Int) < bits BinOp.and IntKind.u8 c.f (4 : Int)) = (toPie (ChR.mk c.t c.f c.v)).fst.u ∧
  List.drop ((0 : Int) + (4 : Int) + (2 : Int) + (2 : Int) + (4 : Int)).toNat c.v = (toPie (ChR.mk c.t c.f c.v)).fst.bytes ∧ (0 : Int) = (toPie (ChR.mk c.t c.f c.v)).snd ∧
  (!false && true && true) = true)) ∧ True) ∧ True) ((∃ (p : PieR), [O.agg [O.d (D.v (Value.int IntKind.u32 (IntKind.u32.wrap y))), O.d (D.v (Value.int IntKind.u16 (IntKind.u16.wrap y_1))), O.d (D.v (Value.int IntKind.u16 (IntKind.u16.wrap y_2))), O.d (D.v (Value.bool (decide ((0 : Int) < bits BinOp.and IntKind.u8 c.f (2 : Int))))), O.d (D.v (Value.bool (decide ((0 : Int) < bits BinOp.and IntKind.u8 c.f (1 : Int))))), O.d (D.v (Value.bool (decide ((0 : Int) < bits BinOp.and IntKind.u8 c.f (4 : Int))))), O.d (D.ints IntKind.u8 [])]] = [O.agg [O.d (D.v (Value.int IntKind.u32 p.tsn)), O.d (D.v (Value.int IntKind.u16 p.str)), O.d (D.v (Value.int IntKind.u16 p.seq)), O.d (D.v (Value.bool p.b)), O.d (D.v (Value.bool p.e)), O.d (D.v (Value.bool p.u)), O.d (D.ints IntKind.u8 p.bytes)]] ∧
  okPie p) ∧ True ∧ True ∧ True ∧ True ∧ True ∧ [!!decide (y_3.snd = (0 : Int))] = [!!decide (y_3.snd = (0 : Int))] ∧ (0 : Int) = (toPie (ChR.mk c.t c.f c.v)).fst.tsn ∧
  (0 : Int) = (toPie (ChR.mk c.t c.f c.v)).fst.str ∧ (0 : Int) = (toPie (ChR.mk c.t c.f c.v)).fst.seq ∧ false = (toPie (ChR.mk c.t c.f c.v)).fst.b ∧ false = (toPie (ChR.mk c.t c.f c.v)).fst.e ∧
  false = (toPie (ChR.mk c.t c.f c.v)).fst.u ∧ (toPie (ChR.mk c.t c.f c.v)).fst.bytes = [] ∧ (2 : Int) = (toPie (ChR.mk c.t c.f c.v)).snd ∧ (true && true) = true)) ∧
  True) ∧ True) ∧ (((∃ (v : List Int), ∃ (i : Int), ∃ (b : Bool), ∃ (k : Nat), [O.ptr (90 : Nat) [O.d (D.ints IntKind.u8 c.v), O.d (D.v (Value.int IntKind.i64 ((0 : Int) + (4 : Int) + (2 : Int)))), O.d (D.v (Value.bool (false || !decide ((getF c.v (0 : Int) (Int.toNat (4 : Int))).snd = (0 : Int)) || !decide ((getF c.v ((0 : Int) + (4 : Int)) (Int.toNat (2 : Int))).snd = (0 : Int)))))], O.d (D.v (Value.int IntKind.i64 (2 : Int)))] = [O.ptr (90 : Nat) [O.d (D.ints IntKind.u8 v), O.d (D.v (Value.int IntKind.i64 i)), O.d (D.v (Value.bool b))], O.d (D.v (Value.int IntKind.i64 (↑k : Int)))] ∧
  sm v.length ∧ okB v ∧ (0 : Int) ≤ i ∧ i ≤ (1099511627776 : Int) ∧ (1 : Nat) ≤ k ∧ k ≤ (8 : Nat)) ∧ ((∃ (v : List Int), ∃ (i : Int), ∃ (b : Bool), ∃ (k : Nat), [O.ptr (90 : Nat) [O.d (D.ints IntKind.u8 c.v), O.d (D.v (Value.int IntKind.i64 ((0 : Int) + (4 : Int) + (2 : Int) + (2 : Int)))), O.d (D.v (Value.bool (false || !decide ((getF c.v (0 : Int) (Int.toNat (4 : Int))).snd = (0 : Int)) || !decide ((getF c.v ((0 : Int) + (4 : Int)) (Int.toNat (2 : Int))).snd = (0 : Int)) || !decide ((getF c.v ((0 : Int) + (4 : Int) + (2 : Int)) (Int.toNat (2 : Int))).snd = (0 : Int)))))], O.d (D.v (Value.int IntKind.i64 (4 : Int)))] = [O.ptr (90 : Nat) [O.d (D.ints IntKind.u8 v), O.d (D.v (Value.int IntKind.i64 i)), O.d (D.v (Value.bool b))], O.d (D.v (Value.int IntKind.i64 (↑k : Int)))] ∧
  sm v.length ∧ okB v ∧ (0 : Int) ≤ i ∧ i ≤ (1099511627776 : Int) ∧ (1 : Nat) ≤ k ∧ k ≤ (8 : Nat)) ∧ sw (!(false || !decide ((getF c.v (0 : Int) (Int.toNat (4 : Int))).snd = (0 : Int)) || !decide ((getF c.v ((0 : Int) + (4 : Int)) (Int.toNat (2 : Int))).snd = (0 : Int)) || !decide ((getF c.v ((0 : Int) + (4 : Int) + (2 : Int)) (Int.toNat (2 : Int))).snd = (0 : Int)) || !decide ((getF c.v ((0 : Int) + (4 : Int) + (2 : Int) + (2 : Int)) (Int.toNat (4 : Int))).snd = (0 : Int)))) (((0 : Int) ≤ (0 : Int) + (4 : Int) + (2 : Int) + (2 : Int) + (4 : Int) ∧
  (0 : Int) + (4 : Int) + (2 : Int) + (2 : Int) + (4 : Int) ≤ (↑c.v.length : Int)) ∧ ((∃ (l : List Int), [O.d (D.ints IntKind.u8 (List.drop ((0 : Int) + (4 : Int) + (2 : Int) + (2 : Int) + (4 : Int)).toNat c.v))] = [O.d (D.ints IntKind.u8 l)] ∧
  sm l.length) ∧ ((∃ (p : PieR), [O.agg [O.d (D.v (Value.int IntKind.u32 (IntKind.u32.wrap y))), O.d (D.v (Value.int IntKind.u16 (IntKind.u16.wrap y_1))), O.d (D.v (Value.int IntKind.u16 (IntKind.u16.wrap y_2))), O.d (D.v (Value.bool (decide ((0 : Int) < bits BinOp.and IntKind.u8 c.f (2 : Int))))), O.d (D.v (Value.bool (decide ((0 : Int) < bits BinOp.and IntKind.u8 c.f (1 : Int))))), O.d (D.v (Value.bool (decide ((0 : Int) < bits BinOp.and IntKind.u8 c.f (4 : Int))))), O.d (D.ints IntKind.u8 (List.drop ((0 : Int) + (4 : Int) + (2 : Int) + (2 : Int) + (4 : Int)).toNat c.v))]] = [O.agg [O.d (D.v (Value.int IntKind.u32 p.tsn)), O.d (D.v (Value.int IntKind.u16 p.str)), O.d (D.v (Value.int IntKind.u16 p.seq)), O.d (D.v (Value.bool p.b)), O.d (D.v (Value.bool p.e)), O.d (D.v (Value.bool p.u)), O.d (D.ints IntKind.u8 p.bytes)]] ∧
  okPie p) ∧ True ∧ sw (!!decide (y_4.snd = (0 : Int))) (SV.agg [SV.c (Value.int IntKind.u8 y_4.fst.t), SV.c (Value.int IntKind.u8 y_4.fst.f), SV.a (11 : Nat)] = SV.agg [SV.c (Value.int IntKind.u8 y_4.fst.t), SV.c (Value.int IntKind.u8 y_4.fst.f), SV.a (11 : Nat)]) True ∧
  sw (!!decide (y_4.snd = (0 : Int))) (SV.agg [SV.c (Value.int IntKind.u8 c.t), SV.c (Value.int IntKind.u8 c.f), SV.a (0 : Nat)] = SV.agg [SV.c (Value.int IntKind.u8 c.t), SV.c (Value.int IntKind.u8 c.f), SV.a (0 : Nat)]) True ∧
  sw (!!decide (y_4.snd = (0 : Int))) ([!!decide (y_4.snd = (0 : Int))] = [!!decide (y_4.snd = (0 : Int))] ∧ [!!decide (y_4.snd = (0 : Int))] = [!!decide (y_4.snd = (0 : Int))] ∧
  (∃ (c_1 : ChR), ∃ (d : ChR), [O.agg [O.d (D.v (Value.int IntKind.u8 y_4.fst.t)), O.d (D.v (Value.int IntKind.u8 y_4.fst.f)), O.d (D.ints IntKind.u8 y_4.fst.v)], O.agg [O.d (D.v (Value.int IntKind.u8 c.t)), O.d (D.v (Value.int IntKind.u8 c.f)), O.d (D.ints IntKind.u8 c.v)]] = [O.agg [O.d (D.v (Value.int IntKind.u8 c_1.t)), O.d (D.v (Value.int IntKind.u8 c_1.f)), O.d (D.ints IntKind.u8 c_1.v)], O.agg [O.d (D.v (Value.int IntKind.u8 d.t)), O.d (D.v (Value.int IntKind.u8 d.f)), O.d (D.ints IntKind.u8 d.v)]] ∧
  okCh c_1) ∧ SV.c (Value.bool (sameB (ChR.mk y_4.fst.t y_4.fst.f y_4.fst.v) (ChR.mk c.t c.f c.v))) = SV.c (Value.bool (sameB (ChR.mk y_4.fst.t y_4.fst.f y_4.fst.v) (ChR.mk c.t c.f c.v)))) True ∧
  sw (!!decide (y_4.snd = (0 : Int))) ([!!decide (y_4.snd = (0 : Int))] = [!!decide (y_4.snd = (0 : Int))] ∧ SV.c (Value.bool !sameB (ChR.mk y_4.fst.t y_4.fst.f y_4.fst.v) (ChR.mk c.t c.f c.v)) = SV.c (Value.bool !sameB (ChR.mk y_4.fst.t y_4.fst.f y_4.fst.v) (ChR.mk c.t c.f c.v))) True ∧
  [!!decide (y_4.snd = (0 : Int))] = [!!decide (y_4.snd = (0 : Int))] ∧ sw (!decide (y_4.snd = (0 : Int)) || !sameB (ChR.mk y_4.fst.t y_4.fst.f y_4.fst.v) (ChR.mk c.t c.f c.v)) ((0 : Int) = (toPie (ChR.mk c.t c.f c.v)).fst.tsn ∧
  (0 : Int) = (toPie (ChR.mk c.t c.f c.v)).fst.str ∧ (0 : Int) = (toPie (ChR.mk c.t c.f c.v)).fst.seq ∧ false = (toPie (ChR.mk c.t c.f c.v)).fst.b ∧ false = (toPie (ChR.mk c.t c.f c.v)).fst.e ∧
  false = (toPie (ChR.mk c.t c.f c.v)).fst.u ∧ (toPie (ChR.mk c.t c.f c.v)).fst.bytes = [] ∧ (2 : Int) = (toPie (ChR.mk c.t c.f c.v)).snd ∧ (true && true) = true) (IntKind.u32.wrap y = (toPie (ChR.mk c.t c.f c.v)).fst.tsn ∧
  IntKind.u16.wrap y_1 = (toPie (ChR.mk c.t c.f c.v)).fst.str ∧ IntKind.u16.wrap y_2 = (toPie (ChR.mk c.t c.f c.v)).fst.seq ∧ decide ((0 : Int) < bits BinOp.and IntKind.u8 c.f (2 : Int)) = (toPie (ChR.mk c.t c.f c.v)).fst.b ∧
  decide ((0 : Int) < bits BinOp.and IntKind.u8 c.f (1 : Int)) = (toPie (ChR.mk c.t c.f c.v)).fst.e ∧ decide ((0 : Int) < bits BinOp.and IntKind.u8 c.f (4 : Int)) = (toPie (ChR.mk c.t c.f c.v)).fst.u ∧
  List.drop ((0 : Int) + (4 : Int) + (2 : Int) + (2 : Int) + (4 : Int)).toNat c.v = (toPie (ChR.mk c.t c.f c.v)).fst.bytes ∧ (0 : Int) = (toPie (ChR.mk c.t c.f c.v)).snd ∧
  (!false && true && true) = true)) ∧ True) ∧ True) ((∃ (p : PieR), [O.agg [O.d (D.v (Value.int IntKind.u32 (IntKind.u32.wrap y))), O.d (D.v (Value.int IntKind.u16 (IntKind.u16.wrap y_1))), O.d (D.v (Value.int IntKind.u16 (IntKind.u16.wrap y_2))), O.d (D.v (Value.bool (decide ((0 : Int) < bits BinOp.and IntKind.u8 c.f (2 : Int))))), O.d (D.v (Value.bool (decide ((0 : Int) < bits BinOp.and IntKind.u8 c.f (1 : Int))))), O.d (D.v (Value.bool (decide ((0 : Int) < bits BinOp.and IntKind.u8 c.f (4 : Int))))), O.d (D.ints IntKind.u8 [])]] = [O.agg [O.d (D.v (Value.int IntKind.u32 p.tsn)), O.d (D.v (Value.int IntKind.u16 p.str)), O.d (D.v (Value.int IntKind.u16 p.seq)), O.d (D.v (Value.bool p.b)), O.d (D.v (Value.bool p.e)), O.d (D.v (Value.bool p.u)), O.d (D.ints IntKind.u8 p.bytes)]] ∧
  okPie p) ∧ True ∧ True ∧ True ∧ True ∧ True ∧ [!!decide (y_3.snd = (0 : Int))] = [!!decide (y_3.snd = (0 : Int))] ∧ (0 : Int) = (toPie (ChR.mk c.t c.f c.v)).fst.tsn ∧
  (0 : Int) = (toPie (ChR.mk c.t c.f c.v)).fst.str ∧ (0 : Int) = (toPie (ChR.mk c.t c.f c.v)).fst.seq ∧ false = (toPie (ChR.mk c.t c.f c.v)).fst.b ∧ false = (toPie (ChR.mk c.t c.f c.v)).fst.e ∧
  false = (toPie (ChR.mk c.t c.f c.v)).fst.u ∧ (toPie (ChR.mk c.t c.f c.v)).fst.bytes = [] ∧ (2 : Int) = (toPie (ChR.mk c.t c.f c.v)).snd ∧ (true && true) = true)) ∧
  True) ∧ True) ∧ True) ∧ (((∃ (v : List Int), ∃ (i : Int), ∃ (b : Bool), ∃ (k : Nat), [O.ptr (90 : Nat) [O.d (D.ints IntKind.u8 c.v), O.d (D.v (Value.int IntKind.i64 ((0 : Int) + (4 : Int)))), O.d (D.v (Value.bool (false || !decide ((getF c.v (0 : Int) (Int.toNat (4 : Int))).snd = (0 : Int)))))], O.d (D.v (Value.int IntKind.i64 (2 : Int)))] = [O.ptr (90 : Nat) [O.d (D.ints IntKind.u8 v), O.d (D.v (Value.int IntKind.i64 i)), O.d (D.v (Value.bool b))], O.d (D.v (Value.int IntKind.i64 (↑k : Int)))] ∧
  sm v.length ∧ okB v ∧ (0 : Int) ≤ i ∧ i ≤ (1099511627776 : Int) ∧ (1 : Nat) ≤ k ∧ k ≤ (8 : Nat)) ∧ ((∃ (v : List Int), ∃ (i : Int), ∃ (b : Bool), ∃ (k : Nat), [O.ptr (90 : Nat) [O.d (D.ints IntKind.u8 c.v), O.d (D.v (Value.int IntKind.i64 ((0 : Int) + (4 : Int) + (2 : Int)))), O.d (D.v (Value.bool (false || !decide ((getF c.v (0 : Int) (Int.toNat (4 : Int))).snd = (0 : Int)) || !decide ((getF c.v ((0 : Int) + (4 : Int)) (Int.toNat (2 : Int))).snd = (0 : Int)))))], O.d (D.v (Value.int IntKind.i64 (2 : Int)))] = [O.ptr (90 : Nat) [O.d (D.ints IntKind.u8 v), O.d (D.v (Value.int IntKind.i64 i)), O.d (D.v (Value.bool b))], O.d (D.v (Value.int IntKind.i64 (↑k : Int)))] ∧
  sm v.length ∧ okB v ∧ (0 : Int) ≤ i ∧ i ≤ (1099511627776 : Int) ∧ (1 : Nat) ≤ k ∧ k ≤ (8 : Nat)) ∧ ((∃ (v : List Int), ∃ (i : Int), ∃ (b : Bool), ∃ (k : Nat), [O.ptr (90 : Nat) [O.d (D.ints IntKind.u8 c.v), O.d (D.v (Value.int IntKind.i64 ((0 : Int) + (4 : Int) + (2 : Int) + (2 : Int)))), O.d (D.v (Value.bool (false || !decide ((getF c.v (0 : Int) (Int.toNat (4 : Int))).snd = (0 : Int)) || !decide ((getF c.v ((0 : Int) + (4 : Int)) (Int.toNat (2 : Int))).snd = (0 : Int)) || !decide ((getF c.v ((0 : Int) + (4 : Int) + (2 : Int)) (Int.toNat (2 : Int))).snd = (0 : Int)))))], O.d (D.v (Value.int IntKind.i64 (4 : Int)))] = [O.ptr (90 : Nat) [O.d (D.ints IntKind.u8 v), O.d (D.v (Value.int IntKind.i64 i)), O.d (D.v (Value.bool b))], O.d (D.v (Value.int IntKind.i64 (↑k : Int)))] ∧
  sm v.length ∧ okB v ∧ (0 : Int) ≤ i ∧ i ≤ (1099511627776 : Int) ∧ (1 : Nat) ≤ k ∧ k ≤ (8 : Nat)) ∧ sw (!(false || !decide ((getF c.v (0 : Int) (Int.toNat (4 : Int))).snd = (0 : Int)) || !decide ((getF c.v ((0 : Int) + (4 : Int)) (Int.toNat (2 : Int))).snd = (0 : Int)) || !decide ((getF c.v ((0 : Int) + (4 : Int) + (2 : Int)) (Int.toNat (2 : Int))).snd = (0 : Int)) || !decide ((getF c.v ((0 : Int) + (4 : Int) + (2 : Int) + (2 : Int)) (Int.toNat (4 : Int))).snd = (0 : Int)))) (((0 : Int) ≤ (0 : Int) + (4 : Int) + (2 : Int) + (2 : Int) + (4 : Int) ∧
  (0 : Int) + (4 : Int) + (2 : Int) + (2 : Int) + (4 : Int) ≤ (↑c.v.length : Int)) ∧ ((∃ (l : List Int), [O.d (D.ints IntKind.u8 (List.drop ((0 : Int) + (4 : Int) + (2 : Int) + (2 : Int) + (4 : Int)).toNat c.v))] = [O.d (D.ints IntKind.u8 l)] ∧
  sm l.length) ∧ ((∃ (p : PieR), [O.agg [O.d (D.v (Value.int IntKind.u32 (IntKind.u32.wrap y))), O.d (D.v (Value.int IntKind.u16 (IntKind.u16.wrap y_1))), O.d (D.v (Value.int IntKind.u16 (IntKind.u16.wrap y_2))), O.d (D.v (Value.bool (decide ((0 : Int) < bits BinOp.and IntKind.u8 c.f (2 : Int))))), O.d (D.v (Value.bool (decide ((0 : Int) < bits BinOp.and IntKind.u8 c.f (1 : Int))))), O.d (D.v (Value.bool (decide ((0 : Int) < bits BinOp.and IntKind.u8 c.f (4 : Int))))), O.d (D.ints IntKind.u8 (List.drop ((0 : Int) + (4 : Int) + (2 : Int) + (2 : Int) + (4 : Int)).toNat c.v))]] = [O.agg [O.d (D.v (Value.int IntKind.u32 p.tsn)), O.d (D.v (Value.int IntKind.u16 p.str)), O.d (D.v (Value.int IntKind.u16 p.seq)), O.d (D.v (Value.bool p.b)), O.d (D.v (Value.bool p.e)), O.d (D.v (Value.bool p.u)), O.d (D.ints IntKind.u8 p.bytes)]] ∧
  okPie p) ∧ True ∧ sw (!!decide (y_4.snd = (0 : Int))) (SV.agg [SV.c (Value.int IntKind.u8 y_4.fst.t), SV.c (Value.int IntKind.u8 y_4.fst.f), SV.a (11 : Nat)] = SV.agg [SV.c (Value.int IntKind.u8 y_4.fst.t), SV.c (Value.int IntKind.u8 y_4.fst.f), SV.a (11 : Nat)]) True ∧
  sw (!!decide (y_4.snd = (0 : Int))) (SV.agg [SV.c (Value.int IntKind.u8 c.t), SV.c (Value.int IntKind.u8 c.f), SV.a (0 : Nat)] = SV.agg [SV.c (Value.int IntKind.u8 c.t), SV.c (Value.int IntKind.u8 c.f), SV.a (0 : Nat)]) True ∧
  sw (!!decide (y_4.snd = (0 : Int))) ([!!decide (y_4.snd = (0 : Int))] = [!!decide (y_4.snd = (0 : Int))] ∧ [!!decide (y_4.snd = (0 : Int))] = [!!decide (y_4.snd = (0 : Int))] ∧
  (∃ (c_1 : ChR), ∃ (d : ChR), [O.agg [O.d (D.v (Value.int IntKind.u8 y_4.fst.t)), O.d (D.v (Value.int IntKind.u8 y_4.fst.f)), O.d (D.ints IntKind.u8 y_4.fst.v)], O.agg [O.d (D.v (Value.int IntKind.u8 c.t)), O.d (D.v (Value.int IntKind.u8 c.f)), O.d (D.ints IntKind.u8 c.v)]] = [O.agg [O.d (D.v (Value.int IntKind.u8 c_1.t)), O.d (D.v (Value.int IntKind.u8 c_1.f)), O.d (D.ints IntKind.u8 c_1.v)], O.agg [O.d (D.v (Value.int IntKind.u8 d.t)), O.d (D.v (Value.int IntKind.u8 d.f)), O.d (D.ints IntKind.u8 d.v)]] ∧
  okCh c_1) ∧ SV.c (Value.bool (sameB (ChR.mk y_4.fst.t y_4.fst.f y_4.fst.v) (ChR.mk c.t c.f c.v))) = SV.c (Value.bool (sameB (ChR.mk y_4.fst.t y_4.fst.f y_4.fst.v) (ChR.mk c.t c.f c.v)))) True ∧
  sw (!!decide (y_4.snd = (0 : Int))) ([!!decide (y_4.snd = (0 : Int))] = [!!decide (y_4.snd = (0 : Int))] ∧ SV.c (Value.bool !sameB (ChR.mk y_4.fst.t y_4.fst.f y_4.fst.v) (ChR.mk c.t c.f c.v)) = SV.c (Value.bool !sameB (ChR.mk y_4.fst.t y_4.fst.f y_4.fst.v) (ChR.mk c.t c.f c.v))) True ∧
  [!!decide (y_4.snd = (0 : Int))] = [!!decide (y_4.snd = (0 : Int))] ∧ sw (!decide (y_4.snd = (0 : Int)) || !sameB (ChR.mk y_4.fst.t y_4.fst.f y_4.fst.v) (ChR.mk c.t c.f c.v)) ((0 : Int) = (toPie (ChR.mk c.t c.f c.v)).fst.tsn ∧
  (0 : Int) = (toPie (ChR.mk c.t c.f c.v)).fst.str ∧ (0 : Int) = (toPie (ChR.mk c.t c.f c.v)).fst.seq ∧ false = (toPie (ChR.mk c.t c.f c.v)).fst.b ∧ false = (toPie (ChR.mk c.t c.f c.v)).fst.e ∧
  false = (toPie (ChR.mk c.t c.f c.v)).fst.u ∧ (toPie (ChR.mk c.t c.f c.v)).fst.bytes = [] ∧ (2 : Int) = (toPie (ChR.mk c.t c.f c.v)).snd ∧ (true && true) = true) (IntKind.u32.wrap y = (toPie (ChR.mk c.t c.f c.v)).fst.tsn ∧
  IntKind.u16.wrap y_1 = (toPie (ChR.mk c.t c.f c.v)).fst.str ∧ IntKind.u16.wrap y_2 = (toPie (ChR.mk c.t c.f c.v)).fst.seq ∧ decide ((0 : Int) < bits BinOp.and IntKind.u8 c.f (2 : Int)) = (toPie (ChR.mk c.t c.f c.v)).fst.b ∧
  decide ((0 : Int) < bits BinOp.and IntKind.u8 c.f (1 : Int)) = (toPie (ChR.mk c.t c.f c.v)).fst.e ∧ decide ((0 : Int) < bits BinOp.and IntKind.u8 c.f (4 : Int)) = (toPie (ChR.mk c.t c.f c.v)).fst.u ∧
  List.drop ((0 : Int) + (4 : Int) + (2 : Int) + (2 : Int) + (4 : Int)).toNat c.v = (toPie (ChR.mk c.t c.f c.v)).fst.bytes ∧ (0 : Int) = (toPie (ChR.mk c.t c.f c.v)).snd ∧
  (!false && true && true) = true)) ∧ True) ∧ True) ((∃ (p : PieR), [O.agg [O.d (D.v (Value.int IntKind.u32 (IntKind.u32.wrap y))), O.d (D.v (Value.int IntKind.u16 (IntKind.u16.wrap y_1))), O.d (D.v (Value.int IntKind.u16 (IntKind.u16.wrap y_2))), O.d (D.v (Value.bool (decide ((0 : Int) < bits BinOp.and IntKind.u8 c.f (2 : Int))))), O.d (D.v (Value.bool (decide ((0 : Int) < bits BinOp.and IntKind.u8 c.f (1 : Int))))), O.d (D.v (Value.bool (decide ((0 : Int) < bits BinOp.and IntKind.u8 c.f (4 : Int))))), O.d (D.ints IntKind.u8 [])]] = [O.agg [O.d (D.v (Value.int IntKind.u32 p.tsn)), O.d (D.v (Value.int IntKind.u16 p.str)), O.d (D.v (Value.int IntKind.u16 p.seq)), O.d (D.v (Value.bool p.b)), O.d (D.v (Value.bool p.e)), O.d (D.v (Value.bool p.u)), O.d (D.ints IntKind.u8 p.bytes)]] ∧
  okPie p) ∧ True ∧ True ∧ True ∧ True ∧ True ∧ [!!decide (y_3.snd = (0 : Int))] = [!!decide (y_3.snd = (0 : Int))] ∧ (0 : Int) = (toPie (ChR.mk c.t c.f c.v)).fst.tsn ∧
  (0 : Int) = (toPie (ChR.mk c.t c.f c.v)).fst.str ∧ (0 : Int) = (toPie (ChR.mk c.t c.f c.v)).fst.seq ∧ false = (toPie (ChR.mk c.t c.f c.v)).fst.b ∧ false = (toPie (ChR.mk c.t c.f c.v)).fst.e ∧
  false = (toPie (ChR.mk c.t c.f c.v)).fst.u ∧ (toPie (ChR.mk c.t c.f c.v)).fst.bytes = [] ∧ (2 : Int) = (toPie (ChR.mk c.t c.f c.v)).snd ∧ (true && true) = true)) ∧
  True) ∧ True) ∧ True) ∧ True) ∧ (((∃ (v : List Int), ∃ (i : Int), ∃ (b : Bool), ∃ (k : Nat), [O.ptr (90 : Nat) [O.d (D.ints IntKind.u8 c.v), O.d (D.v (Value.int IntKind.i64 (0 : Int))), O.d (D.v (Value.bool false))], O.d (D.v (Value.int IntKind.i64 (4 : Int)))] = [O.ptr (90 : Nat) [O.d (D.ints IntKind.u8 v), O.d (D.v (Value.int IntKind.i64 i)), O.d (D.v (Value.bool b))], O.d (D.v (Value.int IntKind.i64 (↑k : Int)))] ∧
  sm v.length ∧ okB v ∧ (0 : Int) ≤ i ∧ i ≤ (1099511627776 : Int) ∧ (1 : Nat) ≤ k ∧ k ≤ (8 : Nat)) ∧ ((∃ (v : List Int), ∃ (i : Int), ∃ (b : Bool), ∃ (k : Nat), [O.ptr (90 : Nat) [O.d (D.ints IntKind.u8 c.v), O.d (D.v (Value.int IntKind.i64 ((0 : Int) + (4 : Int)))), O.d (D.v (Value.bool (false || !decide ((getF c.v (0 : Int) (Int.toNat (4 : Int))).snd = (0 : Int)))))], O.d (D.v (Value.int IntKind.i64 (2 : Int)))] = [O.ptr (90 : Nat) [O.d (D.ints IntKind.u8 v), O.d (D.v (Value.int IntKind.i64 i)), O.d (D.v (Value.bool b))], O.d (D.v (Value.int IntKind.i64 (↑k : Int)))] ∧
  sm v.length ∧ okB v ∧ (0 : Int) ≤ i ∧ i ≤ (1099511627776 : Int) ∧ (1 : Nat) ≤ k ∧ k ≤ (8 : Nat)) ∧ ((∃ (v : List Int), ∃ (i : Int), ∃ (b : Bool), ∃ (k : Nat), [O.ptr (90 : Nat) [O.d (D.ints IntKind.u8 c.v), O.d (D.v (Value.int IntKind.i64 ((0 : Int) + (4 : Int) + (2 : Int)))), O.d (D.v (Value.bool (false || !decide ((getF c.v (0 : Int) (Int.toNat (4 : Int))).snd = (0 : Int)) || !decide ((getF c.v ((0 : Int) + (4 : Int)) (Int.toNat (2 : Int))).snd = (0 : Int)))))], O.d (D.v (Value.int IntKind.i64 (2 : Int)))] = [O.ptr (90 : Nat) [O.d (D.ints IntKind.u8 v), O.d (D.v (Value.int IntKind.i64 i)), O.d (D.v (Value.bool b))], O.d (D.v (Value.int IntKind.i64 (↑k : Int)))] ∧
  sm v.length ∧ okB v ∧ (0 : Int) ≤ i ∧ i ≤ (1099511627776 : Int) ∧ (1 : Nat) ≤ k ∧ k ≤ (8 : Nat)) ∧ ((∃ (v : List Int), ∃ (i : Int), ∃ (b : Bool), ∃ (k : Nat), [O.ptr (90 : Nat) [O.d (D.ints IntKind.u8 c.v), O.d (D.v (Value.int IntKind.i64 ((0 : Int) + (4 : Int) + (2 : Int) + (2 : Int)))), O.d (D.v (Value.bool (false || !decide ((getF c.v (0 : Int) (Int.toNat (4 : Int))).snd = (0 : Int)) || !decide ((getF c.v ((0 : Int) + (4 : Int)) (Int.toNat (2 : Int))).snd = (0 : Int)) || !decide ((getF c.v ((0 : Int) + (4 : Int) + (2 : Int)) (Int.toNat (2 : Int))).snd = (0 : Int)))))], O.d (D.v (Value.int IntKind.i64 (4 : Int)))] = [O.ptr (90 : Nat) [O.d (D.ints IntKind.u8 v), O.d (D.v (Value.int IntKind.i64 i)), O.d (D.v (Value.bool b))], O.d (D.v (Value.int IntKind.i64 (↑k : Int)))] ∧
  sm v.length ∧ okB v ∧ (0 : Int) ≤ i ∧ i ≤ (1099511627776 : Int) ∧ (1 : Nat) ≤ k ∧ k ≤ (8 : Nat)) ∧ sw (!(false || !decide ((getF c.v (0 : Int) (Int.toNat (4 : Int))).snd = (0 : Int)) || !decide ((getF c.v ((0 : Int) + (4 : Int)) (Int.toNat (2 : Int))).snd = (0 : Int)) || !decide ((getF c.v ((0 : Int) + (4 : Int) + (2 : Int)) (Int.toNat (2 : Int))).snd = (0 : Int)) || !decide ((getF c.v ((0 : Int) + (4 : Int) + (2 : Int) + (2 : Int)) (Int.toNat (4 : Int))).snd = (0 : Int)))) (((0 : Int) ≤ (0 : Int) + (4 : Int) + (2 : Int) + (2 : Int) + (4 : Int) ∧
  (0 : Int) + (4 : Int) + (2 : Int) + (2 : Int) + (4 : Int) ≤ (↑c.v.length : Int)) ∧ ((∃ (l : List Int), [O.d (D.ints IntKind.u8 (List.drop ((0 : Int) + (4 : Int) + (2 : Int) + (2 : Int) + (4 : Int)).toNat c.v))] = [O.d (D.ints IntKind.u8 l)] ∧
  sm l.length) ∧ ((∃ (p : PieR), [O.agg [O.d (D.v (Value.int IntKind.u32 (IntKind.u32.wrap y))), O.d (D.v (Value.int IntKind.u16 (IntKind.u16.wrap y_1))), O.d (D.v (Value.int IntKind.u16 (IntKind.u16.wrap y_2))), O.d (D.v (Value.bool (decide ((0 : Int) < bits BinOp.and IntKind.u8 c.f (2 : Int))))), O.d (D.v (Value.bool (decide ((0 : Int) < bits BinOp.and IntKind.u8 c.f (1 : Int))))), O.d (D.v (Value.bool (decide ((0 : Int) < bits BinOp.and IntKind.u8 c.f (4 : Int))))), O.d (D.ints IntKind.u8 (List.drop ((0 : Int) + (4 : Int) + (2 : Int) + (2 : Int) + (4 : Int)).toNat c.v))]] = [O.agg [O.d (D.v (Value.int IntKind.u32 p.tsn)), O.d (D.v (Value.int IntKind.u16 p.str)), O.d (D.v (Value.int IntKind.u16 p.seq)), O.d (D.v (Value.bool p.b)), O.d (D.v (Value.bool p.e)), O.d (D.v (Value.bool p.u)), O.d (D.ints IntKind.u8 p.bytes)]] ∧
  okPie p) ∧ True ∧ sw (!!decide (y_4.snd = (0 : Int))) (SV.agg [SV.c (Value.int IntKind.u8 y_4.fst.t), SV.c (Value.int IntKind.u8 y_4.fst.f), SV.a (11 : Nat)] = SV.agg [SV.c (Value.int IntKind.u8 y_4.fst.t), SV.c (Value.int IntKind.u8 y_4.fst.f), SV.a (11 : Nat)]) True ∧
  sw (!!decide (y_4.snd = (0 : Int))) (SV.agg [SV.c (Value.int IntKind.u8 c.t), SV.c (Value.int IntKind.u8 c.f), SV.a (0 : Nat)] = SV.agg [SV.c (Value.int IntKind.u8 c.t), SV.c (Value.int IntKind.u8 c.f), SV.a (0 : Nat)]) True ∧
  sw (!!decide (y_4.snd = (0 : Int))) ([!!decide (y_4.snd = (0 : Int))] = [!!decide (y_4.snd = (0 : Int))] ∧ [!!decide (y_4.snd = (0 : Int))] = [!!decide (y_4.snd = (0 : Int))] ∧
  (∃ (c_1 : ChR), ∃ (d : ChR), [O.agg [O.d (D.v (Value.int IntKind.u8 y_4.fst.t)), O.d (D.v (Value.int IntKind.u8 y_4.fst.f)), O.d (D.ints IntKind.u8 y_4.fst.v)], O.agg [O.d (D.v (Value.int IntKind.u8 c.t)), O.d (D.v (Value.int IntKind.u8 c.f)), O.d (D.ints IntKind.u8 c.v)]] = [O.agg [O.d (D.v (Value.int IntKind.u8 c_1.t)), O.d (D.v (Value.int IntKind.u8 c_1.f)), O.d (D.ints IntKind.u8 c_1.v)], O.agg [O.d (D.v (Value.int IntKind.u8 d.t)), O.d (D.v (Value.int IntKind.u8 d.f)), O.d (D.ints IntKind.u8 d.v)]] ∧
  okCh c_1) ∧ SV.c (Value.bool (sameB (ChR.mk y_4.fst.t y_4.fst.f y_4.fst.v) (ChR.mk c.t c.f c.v))) = SV.c (Value.bool (sameB (ChR.mk y_4.fst.t y_4.fst.f y_4.fst.v) (ChR.mk c.t c.f c.v)))) True ∧
  sw (!!decide (y_4.snd = (0 : Int))) ([!!decide (y_4.snd = (0 : Int))] = [!!decide (y_4.snd = (0 : Int))] ∧ SV.c (Value.bool !sameB (ChR.mk y_4.fst.t y_4.fst.f y_4.fst.v) (ChR.mk c.t c.f c.v)) = SV.c (Value.bool !sameB (ChR.mk y_4.fst.t y_4.fst.f y_4.fst.v) (ChR.mk c.t c.f c.v))) True ∧
  [!!decide (y_4.snd = (0 : Int))] = [!!decide (y_4.snd = (0 : Int))] ∧ sw (!decide (y_4.snd = (0 : Int)) || !sameB (ChR.mk y_4.fst.t y_4.fst.f y_4.fst.v) (ChR.mk c.t c.f c.v)) ((0 : Int) = (toPie (ChR.mk c.t c.f c.v)).fst.tsn ∧
  (0 : Int) = (toPie (ChR.mk c.t c.f c.v)).fst.str ∧ (0 : Int) = (toPie (ChR.mk c.t c.f c.v)).fst.seq ∧ false = (toPie (ChR.mk c.t c.f c.v)).fst.b ∧ false = (toPie (ChR.mk c.t c.f c.v)).fst.e ∧
  false = (toPie (ChR.mk c.t c.f c.v)).fst.u ∧ (toPie (ChR.mk c.t c.f c.v)).fst.bytes = [] ∧ (2 : Int) = (toPie (ChR.mk c.t c.f c.v)).snd ∧ (true && true) = true) (IntKind.u32.wrap y = (toPie (ChR.mk c.t c.f c.v)).fst.tsn ∧
  IntKind.u16.wrap y_1 = (toPie (ChR.mk c.t c.f c.v)).fst.str ∧ IntKind.u16.wrap y_2 = (toPie (ChR.mk c.t c.f c.v)).fst.seq ∧ decide ((0 : Int) < bits BinOp.and IntKind.u8 c.f (2 : Int)) = (toPie (ChR.mk c.t c.f c.v)).fst.b ∧
  decide ((0 : Int) < bits BinOp.and IntKind.u8 c.f (1 : Int)) = (toPie (ChR.mk c.t c.f c.v)).fst.e ∧ decide ((0 : Int) < bits BinOp.and IntKind.u8 c.f (4 : Int)) = (toPie (ChR.mk c.t c.f c.v)).fst.u ∧
  List.drop ((0 : Int) + (4 : Int) + (2 : Int) + (2 : Int) + (4 : Int)).toNat c.v = (toPie (ChR.mk c.t c.f c.v)).fst.bytes ∧ (0 : Int) = (toPie (ChR.mk c.t c.f c.v)).snd ∧
  (!false && true && true) = true)) ∧ True) ∧ True) ((∃ (p : PieR), [O.agg [O.d (D.v (Value.int IntKind.u32 (IntKind.u32.wrap y))), O.d (D.v (Value.int IntKind.u16 (IntKind.u16.wrap y_1))), O.d (D.v (Value.int IntKind.u16 (IntKind.u16.wrap y_2))), O.d (D.v (Value.bool (decide ((0 : Int) < bits BinOp.and IntKind.u8 c.f (2 : Int))))), O.d (D.v (Value.bool (decide ((0 : Int) < bits BinOp.and IntKind.u8 c.f (1 : Int))))), O.d (D.v (Value.bool (decide ((0 : Int) < bits BinOp.and IntKind.u8 c.f (4 : Int))))), O.d (D.ints IntKind.u8 [])]] = [O.agg [O.d (D.v (Value.int IntKind.u32 p.tsn)), O.d (D.v (Value.int IntKind.u16 p.str)), O.d (D.v (Value.int IntKind.u16 p.seq)), O.d (D.v (Value.bool p.b)), O.d (D.v (Value.bool p.e)), O.d (D.v (Value.bool p.u)), O.d (D.ints IntKind.u8 p.bytes)]] ∧
  okPie p) ∧ True ∧ True ∧ True ∧ True ∧ True ∧ [!!decide (y_3.snd = (0 : Int))] = [!!decide (y_3.snd = (0 : Int))] ∧ (0 : Int) = (toPie (ChR.mk c.t c.f c.v)).fst.tsn ∧
  (0 : Int) = (toPie (ChR.mk c.t c.f c.v)).fst.str ∧ (0 : Int) = (toPie (ChR.mk c.t c.f c.v)).fst.seq ∧ false = (toPie (ChR.mk c.t c.f c.v)).fst.b ∧ false = (toPie (ChR.mk c.t c.f c.v)).fst.e ∧
  false = (toPie (ChR.mk c.t c.f c.v)).fst.u ∧ (toPie (ChR.mk c.t c.f c.v)).fst.bytes = [] ∧ (2 : Int) = (toPie (ChR.mk c.t c.f c.v)).snd ∧ (true && true) = true)) ∧
  True) ∧ True) ∧ True) ∧ True) ∧ True := by
  simp only [↓sw_iff, ↓Bool.and_eq_true, ↓decide_eq_true_eq, ↓decide_eq_false_iff_not, ↓Bool.not_eq_true', ↓Bool.not_eq_false', true_and, and_true, implies_true, Bool.false_or, toNat2, toNat4, toNat12, ch_eta, Int.reduceAdd]
  intro c h1 h2 h3 h4
  obtain ⟨w1, w2, w3⟩ := pie_num_w h1
  have h2' := h2
  unfold sm at h2'
  simp only [w1, w2, w3, pie1_eta, pie_bad]
  have sml : ∀ p, okCh (fromPie p).1 := fun p => by have := fromPie_len p; unfold okCh sm; omega
  by_cases hl : 12 ≤ c.v.length
  · have ho : pieOf c = pie1 c.v c.f (c.v.drop 12) := by unfold pieOf; rw [if_pos hl]
    have hs : sm (c.v.drop 12).length := by rw [List.length_drop]; unfold sm; omega
    simp only [hl, decide_true, Bool.not_true, true_implies, Bool.false_eq_true, false_implies, and_true]
    repeat' apply And.intro
    all_goals first
      | exact fun e => perr_leaf (toPie_e1 ho e)
      | exact fun e => pok_leaf (toPie_e2 ho e)
      | exact fun _ => ⟨_, _, rfl, sml _⟩
      | exact ⟨_, rfl, pie1_ok h1 (okB_drop h1 _) hs⟩
      | exact ⟨_, rfl, hs⟩
      | exact ⟨c.v, _, _, 4, rfl, h2, h1, by decide, by decide, by decide, by decide⟩
      | exact ⟨c.v, _, _, 2, rfl, h2, h1, by decide, by decide, by decide, by decide⟩
      | omega
  · have ho : pieOf c = pie1 c.v c.f [] := by unfold pieOf; rw [if_neg hl]
    have hE : toPie c = (noPie, 2) := toPie_e1 ho (by rw [fromPie_e1 (.inl rfl)]; rfl)
    simp only [hl, decide_false, Bool.not_false, true_implies, Bool.true_eq_false, false_implies, true_and]
    rw [hE]
    repeat' apply And.intro
    all_goals first
      | rfl
      | exact ⟨_, rfl, pie1_ok h1 (fun x hx => by cases hx) (Nat.zero_le _)⟩
      | exact ⟨c.v, _, _, 4, rfl, h2, h1, by decide, by decide, by decide, by decide⟩
      | exact ⟨c.v, _, _, 2, rfl, h2, h1, by decide, by decide, by decide, by decide⟩
      | omega
set_option maxRecDepth 100000 in
theorem ok26 : FnIs Try.prog 26 toPieC := by
  refine fnIs (C := (ctrs c19)) (by kernel_rfl) c19_ok Try.func26 (code := code26) (by kernel_rfl) (by kernel_rfl) ?_
  rintro a ⟨c, rfl, h1, h2, h3, h4⟩
  exact ⟨anns [] [4], kcast (vc26 c h1 h2 h3 h4) (by kernel_rfl)⟩

noncomputable def code28 : Code := match Try.f28.body with | some c => c | none => .skip
set_option maxHeartbeats 4000000 in
theorem vc28 : ∀ (c : ChR), okB c.v → sm c.v.length → (0 : Int) ≤ c.f → c.f ≤ (255 : Int) → True ∧ sw (!!decide (c.t = (0 : Int))) (SV.p (1 : Nat) (1 : Nat) = SV.p (1 : Nat) (1 : Nat)) True ∧
  sw (!!decide (c.t = (0 : Int))) ([!!decide (c.t = (0 : Int))] = [!!decide (c.t = (0 : Int))] ∧ SV.c (Value.int IntKind.u8 c.f) = SV.c (Value.int IntKind.u8 c.f)) True ∧
  sw (!!decide (c.t = (0 : Int))) ([!!decide (c.t = (0 : Int))] = [!!decide (c.t = (0 : Int))] ∧ True ∧ SV.c (Value.bool (decide ((7 : Int) < c.f))) = SV.c (Value.bool (decide ((7 : Int) < c.f)))) True ∧
  [!!decide (c.t = (0 : Int))] = [!!decide (c.t = (0 : Int))] ∧ sw (!(!decide (c.t = (0 : Int)) || decide ((7 : Int) < c.f))) (SV.a (0 : Nat) = SV.a (0 : Nat)) True ∧
  sw (!(!decide (c.t = (0 : Int)) || decide ((7 : Int) < c.f))) ([!(!decide (c.t = (0 : Int)) || decide ((7 : Int) < c.f))] = [!(!decide (c.t = (0 : Int)) || decide ((7 : Int) < c.f))] ∧
  SV.c (Value.int IntKind.i64 (↑c.v.length : Int)) = SV.c (Value.int IntKind.i64 (↑c.v.length : Int))) True ∧ sw (!(!decide (c.t = (0 : Int)) || decide ((7 : Int) < c.f))) ([!(!decide (c.t = (0 : Int)) || decide ((7 : Int) < c.f))] = [!(!decide (c.t = (0 : Int)) || decide ((7 : Int) < c.f))] ∧
  True ∧ SV.c (Value.bool (decide ((↑c.v.length : Int) < (13 : Int)))) = SV.c (Value.bool (decide ((↑c.v.length : Int) < (13 : Int))))) True ∧ [!(!decide (c.t = (0 : Int)) || decide ((7 : Int) < c.f))] = [!(!decide (c.t = (0 : Int)) || decide ((7 : Int) < c.f))] ∧
  sw (!(!decide (c.t = (0 : Int)) || decide ((7 : Int) < c.f) || decide ((↑c.v.length : Int) < (13 : Int)))) (SV.a (0 : Nat) = SV.a (0 : Nat)) True ∧ sw (!(!decide (c.t = (0 : Int)) || decide ((7 : Int) < c.f) || decide ((↑c.v.length : Int) < (13 : Int)))) ([!(!decide (c.t = (0 : Int)) || decide ((7 : Int) < c.f) || decide ((↑c.v.length : Int) < (13 : Int)))] = [!(!decide (c.t = (0 : Int)) || decide ((7 : Int) < c.f) || decide ((↑c.v.length : Int) < (13 : Int)))] ∧
  SV.c (Value.int IntKind.i64 (↑c.v.length : Int)) = SV.c (Value.int IntKind.i64 (↑c.v.length : Int))) True ∧ sw (!(!decide (c.t = (0 : Int)) || decide ((7 : Int) < c.f) || decide ((↑c.v.length : Int) < (13 : Int)))) ([!(!decide (c.t = (0 : Int)) || decide ((7 : Int) < c.f) || decide ((↑c.v.length : Int) < (13 : Int)))] = [!(!decide (c.t = (0 : Int)) || decide ((7 : Int) < c.f) || decide ((↑c.v.length : Int) < (13 : Int)))] ∧
  True ∧ SV.c (Value.bool (decide ((268 : Int) < (↑c.v.length : Int)))) = SV.c (Value.bool (decide ((268 : Int) < (↑c.v.length : Int))))) True ∧ [!(!decide (c.t = (0 : Int)) || decide ((7 : Int) < c.f) || decide ((↑c.v.length : Int) < (13 : Int)))] = [!(!decide (c.t = (0 : Int)) || decide ((7 : Int) < c.f) || decide ((↑c.v.length : Int) < (13 : Int)))] ∧
  sw (!(!decide (c.t = (0 : Int)) || decide ((7 : Int) < c.f) || decide ((↑c.v.length : Int) < (13 : Int)) || decide ((268 : Int) < (↑c.v.length : Int)))) (SV.a (0 : Nat) = SV.a (0 : Nat)) True ∧
  sw (!(!decide (c.t = (0 : Int)) || decide ((7 : Int) < c.f) || decide ((↑c.v.length : Int) < (13 : Int)) || decide ((268 : Int) < (↑c.v.length : Int)))) ([!(!decide (c.t = (0 : Int)) || decide ((7 : Int) < c.f) || decide ((↑c.v.length : Int) < (13 : Int)) || decide ((268 : Int) < (↑c.v.length : Int)))] = [!(!decide (c.t = (0 : Int)) || decide ((7 : Int) < c.f) || decide ((↑c.v.length : Int) < (13 : Int)) || decide ((268 : Int) < (↑c.v.length : Int)))] ∧
  (∃ (b : List Int), ∃ (i : Int), ∃ (k : Nat), [O.d (D.ints IntKind.u8 c.v), O.d (D.v (Value.int IntKind.i64 (4 : Int))), O.d (D.v (Value.int IntKind.i64 (2 : Int)))] = [O.d (D.ints IntKind.u8 b), O.d (D.v (Value.int IntKind.i64 i)), O.d (D.v (Value.int IntKind.i64 (↑k : Int)))] ∧
  sm b.length ∧ okB b ∧ okI i ∧ (1 : Nat) ≤ k ∧ k ≤ (7 : Nat)) ∧ SV.c (Value.int IntKind.i64 (valF (partF c.v (4 : Int) (↑(Int.toNat (2 : Int)) : Int)).fst)) = SV.c (Value.int IntKind.i64 (valF (partF c.v (4 : Int) (↑(Int.toNat (2 : Int)) : Int)).fst))) True ∧
  sw (!(!decide (c.t = (0 : Int)) || decide ((7 : Int) < c.f) || decide ((↑c.v.length : Int) < (13 : Int)) || decide ((268 : Int) < (↑c.v.length : Int)))) ([!(!decide (c.t = (0 : Int)) || decide ((7 : Int) < c.f) || decide ((↑c.v.length : Int) < (13 : Int)) || decide ((268 : Int) < (↑c.v.length : Int)))] = [!(!decide (c.t = (0 : Int)) || decide ((7 : Int) < c.f) || decide ((↑c.v.length : Int) < (13 : Int)) || decide ((268 : Int) < (↑c.v.length : Int)))] ∧
  True ∧ SV.c (Value.bool (decide ((8 : Int) ≤ valF (partF c.v (4 : Int) (↑(Int.toNat (2 : Int)) : Int)).fst))) = SV.c (Value.bool (decide ((8 : Int) ≤ valF (partF c.v (4 : Int) (↑(Int.toNat (2 : Int)) : Int)).fst)))) True ∧
  [!(!decide (c.t = (0 : Int)) || decide ((7 : Int) < c.f) || decide ((↑c.v.length : Int) < (13 : Int)) || decide ((268 : Int) < (↑c.v.length : Int)))] = [!(!decide (c.t = (0 : Int)) || decide ((7 : Int) < c.f) || decide ((↑c.v.length : Int) < (13 : Int)) || decide ((268 : Int) < (↑c.v.length : Int)))] ∧
  sw (!(!decide (c.t = (0 : Int)) || decide ((7 : Int) < c.f) || decide ((↑c.v.length : Int) < (13 : Int)) || decide ((268 : Int) < (↑c.v.length : Int)) || decide ((8 : Int) ≤ valF (partF c.v (4 : Int) (↑(Int.toNat (2 : Int)) : Int)).fst))) (SV.a (0 : Nat) = SV.a (0 : Nat)) True ∧
  sw (!(!decide (c.t = (0 : Int)) || decide ((7 : Int) < c.f) || decide ((↑c.v.length : Int) < (13 : Int)) || decide ((268 : Int) < (↑c.v.length : Int)) || decide ((8 : Int) ≤ valF (partF c.v (4 : Int) (↑(Int.toNat (2 : Int)) : Int)).fst))) ([!(!decide (c.t = (0 : Int)) || decide ((7 : Int) < c.f) || decide ((↑c.v.length : Int) < (13 : Int)) || decide ((268 : Int) < (↑c.v.length : Int)) || decide ((8 : Int) ≤ valF (partF c.v (4 : Int) (↑(Int.toNat (2 : Int)) : Int)).fst))] = [!(!decide (c.t = (0 : Int)) || decide ((7 : Int) < c.f) || decide ((↑c.v.length : Int) < (13 : Int)) || decide ((268 : Int) < (↑c.v.length : Int)) || decide ((8 : Int) ≤ valF (partF c.v (4 : Int) (↑(Int.toNat (2 : Int)) : Int)).fst))] ∧
  (∃ (b : List Int), ∃ (i : Int), ∃ (k : Nat), [O.d (D.ints IntKind.u8 c.v), O.d (D.v (Value.int IntKind.i64 (8 : Int))), O.d (D.v (Value.int IntKind.i64 (4 : Int)))] = [O.d (D.ints IntKind.u8 b), O.d (D.v (Value.int IntKind.i64 i)), O.d (D.v (Value.int IntKind.i64 (↑k : Int)))] ∧
  sm b.length ∧ okB b ∧ okI i ∧ (1 : Nat) ≤ k ∧ k ≤ (7 : Nat)) ∧ SV.c (Value.int IntKind.i64 (valF (partF c.v (8 : Int) (↑(Int.toNat (4 : Int)) : Int)).fst)) = SV.c (Value.int IntKind.i64 (valF (partF c.v (8 : Int) (↑(Int.toNat (4 : Int)) : Int)).fst))) True ∧
  sw (!(!decide (c.t = (0 : Int)) || decide ((7 : Int) < c.f) || decide ((↑c.v.length : Int) < (13 : Int)) || decide ((268 : Int) < (↑c.v.length : Int)) || decide ((8 : Int) ≤ valF (partF c.v (4 : Int) (↑(Int.toNat (2 : Int)) : Int)).fst))) ([!(!decide (c.t = (0 : Int)) || decide ((7 : Int) < c.f) || decide ((↑c.v.length : Int) < (13 : Int)) || decide ((268 : Int) < (↑c.v.length : Int)) || decide ((8 : Int) ≤ valF (partF c.v (4 : Int) (↑(Int.toNat (2 : Int)) : Int)).fst))] = [!(!decide (c.t = (0 : Int)) || decide ((7 : Int) < c.f) || decide ((↑c.v.length : Int) < (13 : Int)) || decide ((268 : Int) < (↑c.v.length : Int)) || decide ((8 : Int) ≤ valF (partF c.v (4 : Int) (↑(Int.toNat (2 : Int)) : Int)).fst))] ∧
  True ∧ SV.c (Value.bool !decide (valF (partF c.v (8 : Int) (↑(Int.toNat (4 : Int)) : Int)).fst = (46 : Int))) = SV.c (Value.bool !decide (valF (partF c.v (8 : Int) (↑(Int.toNat (4 : Int)) : Int)).fst = (46 : Int)))) True ∧
  [!(!decide (c.t = (0 : Int)) || decide ((7 : Int) < c.f) || decide ((↑c.v.length : Int) < (13 : Int)) || decide ((268 : Int) < (↑c.v.length : Int)) || decide ((8 : Int) ≤ valF (partF c.v (4 : Int) (↑(Int.toNat (2 : Int)) : Int)).fst))] = [!(!decide (c.t = (0 : Int)) || decide ((7 : Int) < c.f) || decide ((↑c.v.length : Int) < (13 : Int)) || decide ((268 : Int) < (↑c.v.length : Int)) || decide ((8 : Int) ≤ valF (partF c.v (4 : Int) (↑(Int.toNat (2 : Int)) : Int)).fst))] ∧
  sw (!decide (c.t = (0 : Int)) || decide ((7 : Int) < c.f) || decide ((↑c.v.length : Int) < (13 : Int)) || decide ((268 : Int) < (↑c.v.length : Int)) || decide ((8 : Int) ≤ valF (partF c.v (4 : Int) (↑(Int.toNat (2 : Int)) : Int)).fst) || !decide (valF (partF c.v (8 : Int) (↑(Int.toNat (4 : Int)) : Int)).fst = (46 : Int))) ((0 : Int) = (toPie (ChR.mk c.t c.f c.v)).fst.tsn ∧
  (0 : Int) = (toPie (ChR.mk c.t c.f c.v)).fst.str ∧ (0 : Int) = (toPie (ChR.mk c.t c.f c.v)).fst.seq ∧ false = (toPie (ChR.mk c.t c.f c.v)).fst.b ∧ false = (toPie (ChR.mk c.t c.f c.v)).fst.e ∧
  false = (toPie (ChR.mk c.t c.f c.v)).fst.u ∧ (toPie (ChR.mk c.t c.f c.v)).fst.bytes = [] ∧ (2 : Int) = (toPie (ChR.mk c.t c.f c.v)).snd ∧ (true && true) = true) (True ∧
  (2 : Int) ≠ (0 : Int) ∧ (2 : Int) ≠ (0 : Int) ∧ True ∧ (2 : Int) ≠ (0 : Int) ∧ True ∧ ((0 : Int) ≤ (12 : Int) ∧ (12 : Int) ≤ (↑c.v.length : Int)) ∧ ((∃ (b : List Int), ∃ (i : Int), ∃ (k : Nat), [O.d (D.ints IntKind.u8 c.v), O.d (D.v (Value.int IntKind.i64 (0 : Int))), O.d (D.v (Value.int IntKind.i64 (4 : Int)))] = [O.d (D.ints IntKind.u8 b), O.d (D.v (Value.int IntKind.i64 i)), O.d (D.v (Value.int IntKind.i64 (↑k : Int)))] ∧
  sm b.length ∧ okB b ∧ okI i ∧ (1 : Nat) ≤ k ∧ k ≤ (7 : Nat)) ∧ ((∃ (b : List Int), ∃ (i : Int), ∃ (k : Nat), [O.d (D.ints IntKind.u8 c.v), O.d (D.v (Value.int IntKind.i64 (4 : Int))), O.d (D.v (Value.int IntKind.i64 (2 : Int)))] = [O.d (D.ints IntKind.u8 b), O.d (D.v (Value.int IntKind.i64 i)), O.d (D.v (Value.int IntKind.i64 (↑k : Int)))] ∧
  sm b.length ∧ okB b ∧ okI i ∧ (1 : Nat) ≤ k ∧ k ≤ (7 : Nat)) ∧ ((∃ (b : List Int), ∃ (i : Int), ∃ (k : Nat), [O.d (D.ints IntKind.u8 c.v), O.d (D.v (Value.int IntKind.i64 (6 : Int))), O.d (D.v (Value.int IntKind.i64 (2 : Int)))] = [O.d (D.ints IntKind.u8 b), O.d (D.v (Value.int IntKind.i64 i)), O.d (D.v (Value.int IntKind.i64 (↑k : Int)))] ∧
  sm b.length ∧ okB b ∧ okI i ∧ (1 : Nat) ≤ k ∧ k ≤ (7 : Nat)) ∧ ((True ∧ ((0 : Nat) + (List.drop (Int.toNat (12 : Int)) c.v).length) * Try.prog.types[(5 : Nat)].bytes ≤ (140737488355328 : Nat) ∧
  (IntKind.u32.wrap (valF (partF c.v (0 : Int) (↑(Int.toNat (4 : Int)) : Int)).fst) = (toPie (ChR.mk c.t c.f c.v)).fst.tsn ∧ IntKind.u16.wrap (valF (partF c.v (4 : Int) (↑(Int.toNat (2 : Int)) : Int)).fst) = (toPie (ChR.mk c.t c.f c.v)).fst.str ∧
  IntKind.u16.wrap (valF (partF c.v (6 : Int) (↑(Int.toNat (2 : Int)) : Int)).fst) = (toPie (ChR.mk c.t c.f c.v)).fst.seq ∧ decide ((IntKind.u8.wrap (c.f.tdiv (2 : Int))).tmod (2 : Int) = (1 : Int)) = (toPie (ChR.mk c.t c.f c.v)).fst.b ∧
  decide (c.f.tmod (2 : Int) = (1 : Int)) = (toPie (ChR.mk c.t c.f c.v)).fst.e ∧ decide ((4 : Int) ≤ c.f) = (toPie (ChR.mk c.t c.f c.v)).fst.u ∧ [] ++ List.drop (Int.toNat (12 : Int)) c.v = (toPie (ChR.mk c.t c.f c.v)).fst.bytes ∧
  (0 : Int) = (toPie (ChR.mk c.t c.f c.v)).snd ∧ (!false && true && true) = true) ∧ True) ∧ True) ∧ True) ∧ (((∃ (b : List Int), ∃ (i : Int), ∃ (k : Nat), [O.d (D.ints IntKind.u8 c.v), O.d (D.v (Value.int IntKind.i64 (6 : Int))), O.d (D.v (Value.int IntKind.i64 (2 : Int)))] = [O.d (D.ints IntKind.u8 b), O.d (D.v (Value.int IntKind.i64 i)), O.d (D.v (Value.int IntKind.i64 (↑k : Int)))] ∧
  sm b.length ∧ okB b ∧ okI i ∧ (1 : Nat) ≤ k ∧ k ≤ (7 : Nat)) ∧ (True ∧ ((0 : Nat) + (List.drop (Int.toNat (12 : Int)) c.v).length) * Try.prog.types[(5 : Nat)].bytes ≤ (140737488355328 : Nat) ∧
  (IntKind.u32.wrap (valF (partF c.v (0 : Int) (↑(Int.toNat (4 : Int)) : Int)).fst) = (toPie (ChR.mk c.t c.f c.v)).fst.tsn ∧ IntKind.u16.wrap (valF (partF c.v (4 : Int) (↑(Int.toNat (2 : Int)) : Int)).fst) = (toPie (ChR.mk c.t c.f c.v)).fst.str ∧
  IntKind.u16.wrap (valF (partF c.v (6 : Int) (↑(Int.toNat (2 : Int)) : Int)).fst) = (toPie (ChR.mk c.t c.f c.v)).fst.seq ∧ decide ((IntKind.u8.wrap (c.f.tdiv (2 : Int))).tmod (2 : Int) = (1 : Int)) = (toPie (ChR.mk c.t c.f c.v)).fst.b ∧
  decide (c.f.tmod (2 : Int) = (1 : Int)) = (toPie (ChR.mk c.t c.f c.v)).fst.e ∧ decide ((4 : Int) ≤ c.f) = (toPie (ChR.mk c.t c.f c.v)).fst.u ∧ [] ++ List.drop (Int.toNat (12 : Int)) c.v = (toPie (ChR.mk c.t c.f c.v)).fst.bytes ∧
  (0 : Int) = (toPie (ChR.mk c.t c.f c.v)).snd ∧ (!false && true && true) = true) ∧ True) ∧ True) ∧ True) ∧ True) ∧ (((∃ (b : List Int), ∃ (i : Int), ∃ (k : Nat), [O.d (D.ints IntKind.u8 c.v), O.d (D.v (Value.int IntKind.i64 (4 : Int))), O.d (D.v (Value.int IntKind.i64 (2 : Int)))] = [O.d (D.ints IntKind.u8 b), O.d (D.v (Value.int IntKind.i64 i)), O.d (D.v (Value.int IntKind.i64 (↑k : Int)))] ∧
  sm b.length ∧ okB b ∧ okI i ∧ (1 : Nat) ≤ k ∧ k ≤ (7 : Nat)) ∧ ((∃ (b : List Int), ∃ (i : Int), ∃ (k : Nat), [O.d (D.ints IntKind.u8 c.v), O.d (D.v (Value.int IntKind.i64 (6 : Int))), O.d (D.v (Value.int IntKind.i64 (2 : Int)))] = [O.d (D.ints IntKind.u8 b), O.d (D.v (Value.int IntKind.i64 i)), O.d (D.v (Value.int IntKind.i64 (↑k : Int)))] ∧
  sm b.length ∧ okB b ∧ okI i ∧ (1 : Nat) ≤ k ∧ k ≤ (7 : Nat)) ∧ (True ∧ ((0 : Nat) + (List.drop (Int.toNat (12 : Int)) c.v).length) * Try.prog.types[(5 : Nat)].bytes ≤ (140737488355328 : Nat) ∧
  (IntKind.u32.wrap (valF (partF c.v (0 : Int) (↑(Int.toNat (4 : Int)) : Int)).fst) = (toPie (ChR.mk c.t c.f c.v)).fst.tsn ∧ IntKind.u16.wrap (valF (partF c.v (4 : Int) (↑(Int.toNat (2 : Int)) : Int)).fst) = (toPie (ChR.mk c.t c.f c.v)).fst.str ∧
  IntKind.u16.wrap (valF (partF c.v (6 : Int) (↑(Int.toNat (2 : Int)) : Int)).fst) = (toPie (ChR.mk c.t c.f c.v)).fst.seq ∧ decide ((IntKind.u8.wrap (c.f.tdiv (2 : Int))).tmod (2 : Int) = (1 : Int)) = (toPie (ChR.mk c.t c.f c.v)).fst.b ∧
  decide (c.f.tmod (2 : Int) = (1 : Int)) = (toPie (ChR.mk c.t c.f c.v)).fst.e ∧ decide ((4 : Int) ≤ c.f) = (toPie (ChR.mk c.t c.f c.v)).fst.u ∧ [] ++ List.drop (Int.toNat (12 : Int)) c.v = (toPie (ChR.mk c.t c.f c.v)).fst.bytes ∧
  (0 : Int) = (toPie (ChR.mk c.t c.f c.v)).snd ∧ (!false && true && true) = true) ∧ True) ∧ True) ∧ True) ∧ True) ∧ True) ∧ (((∃ (b : List Int), ∃ (i : Int), ∃ (k : Nat), [O.d (D.ints IntKind.u8 c.v), O.d (D.v (Value.int IntKind.i64 (0 : Int))), O.d (D.v (Value.int IntKind.i64 (4 : Int)))] = [O.d (D.ints IntKind.u8 b), O.d (D.v (Value.int IntKind.i64 i)), O.d (D.v (Value.int IntKind.i64 (↑k : Int)))] ∧
  sm b.length ∧ okB b ∧ okI i ∧ (1 : Nat) ≤ k ∧ k ≤ (7 : Nat)) ∧ ((∃ (b : List Int), ∃ (i : Int), ∃ (k : Nat), [O.d (D.ints IntKind.u8 c.v), O.d (D.v (Value.int IntKind.i64 (4 : Int))), O.d (D.v (Value.int IntKind.i64 (2 : Int)))] = [O.d (D.ints IntKind.u8 b), O.d (D.v (Value.int IntKind.i64 i)), O.d (D.v (Value.int IntKind.i64 (↑k : Int)))] ∧
  sm b.length ∧ okB b ∧ okI i ∧ (1 : Nat) ≤ k ∧ k ≤ (7 : Nat)) ∧ ((∃ (b : List Int), ∃ (i : Int), ∃ (k : Nat), [O.d (D.ints IntKind.u8 c.v), O.d (D.v (Value.int IntKind.i64 (6 : Int))), O.d (D.v (Value.int IntKind.i64 (2 : Int)))] = [O.d (D.ints IntKind.u8 b), O.d (D.v (Value.int IntKind.i64 i)), O.d (D.v (Value.int IntKind.i64 (↑k : Int)))] ∧
  sm b.length ∧ okB b ∧ okI i ∧ (1 : Nat) ≤ k ∧ k ≤ (7 : Nat)) ∧ (True ∧ ((0 : Nat) + (List.drop (Int.toNat (12 : Int)) c.v).length) * Try.prog.types[(5 : Nat)].bytes ≤ (140737488355328 : Nat) ∧
  (IntKind.u32.wrap (valF (partF c.v (0 : Int) (↑(Int.toNat (4 : Int)) : Int)).fst) = (toPie (ChR.mk c.t c.f c.v)).fst.tsn ∧ IntKind.u16.wrap (valF (partF c.v (4 : Int) (↑(Int.toNat (2 : Int)) : Int)).fst) = (toPie (ChR.mk c.t c.f c.v)).fst.str ∧
  IntKind.u16.wrap (valF (partF c.v (6 : Int) (↑(Int.toNat (2 : Int)) : Int)).fst) = (toPie (ChR.mk c.t c.f c.v)).fst.seq ∧ decide ((IntKind.u8.wrap (c.f.tdiv (2 : Int))).tmod (2 : Int) = (1 : Int)) = (toPie (ChR.mk c.t c.f c.v)).fst.b ∧
  decide (c.f.tmod (2 : Int) = (1 : Int)) = (toPie (ChR.mk c.t c.f c.v)).fst.e ∧ decide ((4 : Int) ≤ c.f) = (toPie (ChR.mk c.t c.f c.v)).fst.u ∧ [] ++ List.drop (Int.toNat (12 : Int)) c.v = (toPie (ChR.mk c.t c.f c.v)).fst.bytes ∧
  (0 : Int) = (toPie (ChR.mk c.t c.f c.v)).snd ∧ (!false && true && true) = true) ∧ True) ∧ True) ∧ True) ∧ True) ∧ True) ∧ True) := by
  simp only [↓sw_iff, ↓Bool.and_eq_true, ↓decide_eq_true_eq, ↓decide_eq_false_iff_not, ↓Bool.not_eq_true', ↓Bool.not_eq_false', true_and, and_true, implies_true, Nat.zero_add, List.nil_append, Nat.mul_one, bytes5, toNat2, toNat4, toNat12, ch_eta, num_def]
  intro c h1 h2 h3 h4
  obtain ⟨w1, w2, w3⟩ := pie_num_w h1
  have h2' := h2
  unfold sm at h2'
  have t1 : decide ((IntKind.u8.wrap (c.f.tdiv 2)).tmod 2 = 1) = decide (c.f / 2 % 2 = 1) := by
    rw [Int.tdiv_eq_ediv_of_nonneg h3, IntKind.wrap_u8, Int.emod_eq_of_lt (by omega) (by omega), Int.tmod_eq_emod_of_nonneg (by omega)]
  have t2 : decide (c.f.tmod 2 = 1) = decide (c.f % 2 = 1) := by rw [Int.tmod_eq_emod_of_nonneg h3]
  simp only [w1, w2, w3, t1, t2, toPie_eq h1 ⟨h3, h4⟩, Bool.or_eq_true, Bool.or_eq_false_iff, Bool.not_eq_true', Bool.not_eq_false', decide_eq_true_eq, decide_eq_false_iff_not]
  have P4 : ∀ i : Nat, i ≤ 8 → (∃ (b : List Int) (j : Int) (k : Nat), [O.d (D.ints IntKind.u8 c.v), O.d (D.v (Value.int IntKind.i64 (i : Int))), O.d (D.v (Value.int IntKind.i64 4))] = [O.d (D.ints IntKind.u8 b), O.d (D.v (Value.int IntKind.i64 j)), O.d (D.v (Value.int IntKind.i64 (k : Int)))] ∧ sm b.length ∧ okB b ∧ okI j ∧ 1 ≤ k ∧ k ≤ 7) :=
    fun i hi => ⟨_, _, 4, rfl, h2, h1, by unfold okI; omega, by decide, by decide⟩
  have P2 : ∀ i : Nat, i ≤ 8 → (∃ (b : List Int) (j : Int) (k : Nat), [O.d (D.ints IntKind.u8 c.v), O.d (D.v (Value.int IntKind.i64 (i : Int))), O.d (D.v (Value.int IntKind.i64 2))] = [O.d (D.ints IntKind.u8 b), O.d (D.v (Value.int IntKind.i64 j)), O.d (D.v (Value.int IntKind.i64 (k : Int)))] ∧ sm b.length ∧ okB b ∧ okI j ∧ 1 ≤ k ∧ k ≤ 7) :=
    fun i hi => ⟨_, _, 2, rfl, h2, h1, by unfold okI; omega, by decide, by decide⟩
  refine ⟨fun _ => P2 4 (by decide), fun _ => P4 8 (by decide), fun e => perr_leaf ?_, fun e => ?_⟩
  · have e' : badPie c := by
      unfold badPie
      rcases e with ((((h | h) | h) | h) | h) | h
      · exact .inl h
      · exact .inr (.inl h)
      · exact .inr (.inr (.inl (by omega)))
      · exact .inr (.inr (.inr (.inl (by omega))))
      · exact .inr (.inr (.inr (.inr (.inl (of_decide_eq_true h)))))
      · exact .inr (.inr (.inr (.inr (.inr (of_decide_eq_false h)))))
    unfold toPieRef
    rw [if_pos e']
  · have hr : toPieRef c = (pieRef c, 0) := by
      unfold toPieRef
      obtain ⟨⟨⟨⟨⟨e1, e2⟩, e3⟩, e4⟩, e5⟩, e6⟩ := e
      have e5 := of_decide_eq_false e5
      have e6 := of_decide_eq_true e6
      rw [if_neg]
      unfold badPie
      omega
    rw [hr]
    repeat' apply And.intro
    all_goals first
      | rfl
      | exact P4 0 (by decide)
      | exact P2 4 (by decide)
      | exact P2 6 (by decide)
      | (simp only [List.length_drop]; omega)
      | omega
set_option maxRecDepth 100000 in
theorem ok28 : FnIs Try.prog 28 toPieC := by
  refine fnIs (C := (ctrs c16)) (by kernel_rfl) c16_ok Try.func28 (code := code28) (by kernel_rfl) (by kernel_rfl) ?_
  rintro a ⟨c, rfl, h1, h2, h3, h4⟩
  exact ⟨anns [], kcast (vc28 c h1 h2 h3 h4) (by kernel_rfl)⟩

noncomputable def code27 : Code := match Try.f27.body with | some c => c | none => .skip
set_option maxHeartbeats 4000000 in
theorem vc27 : ∀ (h g : PieR), True ∧ sw (decide (h.tsn = g.tsn)) (SV.p (2 : Nat) (1 : Nat) = SV.p (2 : Nat) (1 : Nat)) True ∧ sw (decide (h.tsn = g.tsn)) ([decide (h.tsn = g.tsn)] = [decide (h.tsn = g.tsn)] ∧
  SV.c (Value.int IntKind.u16 h.str) = SV.c (Value.int IntKind.u16 h.str)) True ∧ sw (decide (h.tsn = g.tsn)) (SV.p (3 : Nat) (1 : Nat) = SV.p (3 : Nat) (1 : Nat)) True ∧
  sw (decide (h.tsn = g.tsn)) ([decide (h.tsn = g.tsn)] = [decide (h.tsn = g.tsn)] ∧ SV.c (Value.int IntKind.u16 g.str) = SV.c (Value.int IntKind.u16 g.str)) True ∧
  sw (decide (h.tsn = g.tsn)) ([decide (h.tsn = g.tsn)] = [decide (h.tsn = g.tsn)] ∧ [decide (h.tsn = g.tsn)] = [decide (h.tsn = g.tsn)] ∧ True ∧ SV.c (Value.bool (decide (h.str = g.str))) = SV.c (Value.bool (decide (h.str = g.str)))) True ∧
  [decide (h.tsn = g.tsn)] = [decide (h.tsn = g.tsn)] ∧ sw (decide (h.tsn = g.tsn) && decide (h.str = g.str)) (SV.p (2 : Nat) (2 : Nat) = SV.p (2 : Nat) (2 : Nat)) True ∧
  sw (decide (h.tsn = g.tsn) && decide (h.str = g.str)) ([decide (h.tsn = g.tsn) && decide (h.str = g.str)] = [decide (h.tsn = g.tsn) && decide (h.str = g.str)] ∧
  SV.c (Value.int IntKind.u16 h.seq) = SV.c (Value.int IntKind.u16 h.seq)) True ∧ sw (decide (h.tsn = g.tsn) && decide (h.str = g.str)) (SV.p (3 : Nat) (2 : Nat) = SV.p (3 : Nat) (2 : Nat)) True ∧
  sw (decide (h.tsn = g.tsn) && decide (h.str = g.str)) ([decide (h.tsn = g.tsn) && decide (h.str = g.str)] = [decide (h.tsn = g.tsn) && decide (h.str = g.str)] ∧
  SV.c (Value.int IntKind.u16 g.seq) = SV.c (Value.int IntKind.u16 g.seq)) True ∧ sw (decide (h.tsn = g.tsn) && decide (h.str = g.str)) ([decide (h.tsn = g.tsn) && decide (h.str = g.str)] = [decide (h.tsn = g.tsn) && decide (h.str = g.str)] ∧
  [decide (h.tsn = g.tsn) && decide (h.str = g.str)] = [decide (h.tsn = g.tsn) && decide (h.str = g.str)] ∧ True ∧ SV.c (Value.bool (decide (h.seq = g.seq))) = SV.c (Value.bool (decide (h.seq = g.seq)))) True ∧
  [decide (h.tsn = g.tsn) && decide (h.str = g.str)] = [decide (h.tsn = g.tsn) && decide (h.str = g.str)] ∧ sw (decide (h.tsn = g.tsn) && decide (h.str = g.str) && decide (h.seq = g.seq)) (SV.p (2 : Nat) (3 : Nat) = SV.p (2 : Nat) (3 : Nat)) True ∧
  sw (decide (h.tsn = g.tsn) && decide (h.str = g.str) && decide (h.seq = g.seq)) ([decide (h.tsn = g.tsn) && decide (h.str = g.str) && decide (h.seq = g.seq)] = [decide (h.tsn = g.tsn) && decide (h.str = g.str) && decide (h.seq = g.seq)] ∧
  SV.c (Value.bool h.b) = SV.c (Value.bool h.b)) True ∧ sw (decide (h.tsn = g.tsn) && decide (h.str = g.str) && decide (h.seq = g.seq)) (SV.p (3 : Nat) (3 : Nat) = SV.p (3 : Nat) (3 : Nat)) True ∧
  sw (decide (h.tsn = g.tsn) && decide (h.str = g.str) && decide (h.seq = g.seq)) ([decide (h.tsn = g.tsn) && decide (h.str = g.str) && decide (h.seq = g.seq)] = [decide (h.tsn = g.tsn) && decide (h.str = g.str) && decide (h.seq = g.seq)] ∧
  SV.c (Value.bool g.b) = SV.c (Value.bool g.b)) True ∧ sw (decide (h.tsn = g.tsn) && decide (h.str = g.str) && decide (h.seq = g.seq)) ([decide (h.tsn = g.tsn) && decide (h.str = g.str) && decide (h.seq = g.seq)] = [decide (h.tsn = g.tsn) && decide (h.str = g.str) && decide (h.seq = g.seq)] ∧
  [decide (h.tsn = g.tsn) && decide (h.str = g.str) && decide (h.seq = g.seq)] = [decide (h.tsn = g.tsn) && decide (h.str = g.str) && decide (h.seq = g.seq)] ∧
  True ∧ SV.c (Value.bool (h.b == g.b)) = SV.c (Value.bool (h.b == g.b))) True ∧ [decide (h.tsn = g.tsn) && decide (h.str = g.str) && decide (h.seq = g.seq)] = [decide (h.tsn = g.tsn) && decide (h.str = g.str) && decide (h.seq = g.seq)] ∧
  sw (decide (h.tsn = g.tsn) && decide (h.str = g.str) && decide (h.seq = g.seq) && h.b == g.b) (SV.p (2 : Nat) (4 : Nat) = SV.p (2 : Nat) (4 : Nat)) True ∧
  sw (decide (h.tsn = g.tsn) && decide (h.str = g.str) && decide (h.seq = g.seq) && h.b == g.b) ([decide (h.tsn = g.tsn) && decide (h.str = g.str) && decide (h.seq = g.seq) && h.b == g.b] = [decide (h.tsn = g.tsn) && decide (h.str = g.str) && decide (h.seq = g.seq) && h.b == g.b] ∧
  SV.c (Value.bool h.e) = SV.c (Value.bool h.e)) True ∧ sw (decide (h.tsn = g.tsn) && decide (h.str = g.str) && decide (h.seq = g.seq) && h.b == g.b) (SV.p (3 : Nat) (4 : Nat) = SV.p (3 : Nat) (4 : Nat)) True ∧
  sw (decide (h.tsn = g.tsn) && decide (h.str = g.str) && decide (h.seq = g.seq) && h.b == g.b) ([decide (h.tsn = g.tsn) && decide (h.str = g.str) && decide (h.seq = g.seq) && h.b == g.b] = [decide (h.tsn = g.tsn) && decide (h.str = g.str) && decide (h.seq = g.seq) && h.b == g.b] ∧
  SV.c (Value.bool g.e) = SV.c (Value.bool g.e)) True ∧ sw (decide (h.tsn = g.tsn) && decide (h.str = g.str) && decide (h.seq = g.seq) && h.b == g.b) ([decide (h.tsn = g.tsn) && decide (h.str = g.str) && decide (h.seq = g.seq) && h.b == g.b] = [decide (h.tsn = g.tsn) && decide (h.str = g.str) && decide (h.seq = g.seq) && h.b == g.b] ∧
  [decide (h.tsn = g.tsn) && decide (h.str = g.str) && decide (h.seq = g.seq) && h.b == g.b] = [decide (h.tsn = g.tsn) && decide (h.str = g.str) && decide (h.seq = g.seq) && h.b == g.b] ∧
  True ∧ SV.c (Value.bool (h.e == g.e)) = SV.c (Value.bool (h.e == g.e))) True ∧ [decide (h.tsn = g.tsn) && decide (h.str = g.str) && decide (h.seq = g.seq) && h.b == g.b] = [decide (h.tsn = g.tsn) && decide (h.str = g.str) && decide (h.seq = g.seq) && h.b == g.b] ∧
  sw (decide (h.tsn = g.tsn) && decide (h.str = g.str) && decide (h.seq = g.seq) && h.b == g.b && h.e == g.e) (SV.p (2 : Nat) (5 : Nat) = SV.p (2 : Nat) (5 : Nat)) True ∧
  sw (decide (h.tsn = g.tsn) && decide (h.str = g.str) && decide (h.seq = g.seq) && h.b == g.b && h.e == g.e) ([decide (h.tsn = g.tsn) && decide (h.str = g.str) && decide (h.seq = g.seq) && h.b == g.b && h.e == g.e] = [decide (h.tsn = g.tsn) && decide (h.str = g.str) && decide (h.seq = g.seq) && h.b == g.b && h.e == g.e] ∧
  SV.c (Value.bool h.u) = SV.c (Value.bool h.u)) True ∧ sw (decide (h.tsn = g.tsn) && decide (h.str = g.str) && decide (h.seq = g.seq) && h.b == g.b && h.e == g.e) (SV.p (3 : Nat) (5 : Nat) = SV.p (3 : Nat) (5 : Nat)) True ∧
  sw (decide (h.tsn = g.tsn) && decide (h.str = g.str) && decide (h.seq = g.seq) && h.b == g.b && h.e == g.e) ([decide (h.tsn = g.tsn) && decide (h.str = g.str) && decide (h.seq = g.seq) && h.b == g.b && h.e == g.e] = [decide (h.tsn = g.tsn) && decide (h.str = g.str) && decide (h.seq = g.seq) && h.b == g.b && h.e == g.e] ∧
  SV.c (Value.bool g.u) = SV.c (Value.bool g.u)) True ∧ sw (decide (h.tsn = g.tsn) && decide (h.str = g.str) && decide (h.seq = g.seq) && h.b == g.b && h.e == g.e) ([decide (h.tsn = g.tsn) && decide (h.str = g.str) && decide (h.seq = g.seq) && h.b == g.b && h.e == g.e] = [decide (h.tsn = g.tsn) && decide (h.str = g.str) && decide (h.seq = g.seq) && h.b == g.b && h.e == g.e] ∧
  [decide (h.tsn = g.tsn) && decide (h.str = g.str) && decide (h.seq = g.seq) && h.b == g.b && h.e == g.e] = [decide (h.tsn = g.tsn) && decide (h.str = g.str) && decide (h.seq = g.seq) && h.b == g.b && h.e == g.e] ∧
  True ∧ SV.c (Value.bool (h.u == g.u)) = SV.c (Value.bool (h.u == g.u))) True ∧ [decide (h.tsn = g.tsn) && decide (h.str = g.str) && decide (h.seq = g.seq) && h.b == g.b && h.e == g.e] = [decide (h.tsn = g.tsn) && decide (h.str = g.str) && decide (h.seq = g.seq) && h.b == g.b && h.e == g.e] ∧
  sw (decide (h.tsn = g.tsn) && decide (h.str = g.str) && decide (h.seq = g.seq) && h.b == g.b && h.e == g.e && h.u == g.u) (SV.p (2 : Nat) (6 : Nat) = SV.p (2 : Nat) (6 : Nat)) True ∧
  sw (decide (h.tsn = g.tsn) && decide (h.str = g.str) && decide (h.seq = g.seq) && h.b == g.b && h.e == g.e && h.u == g.u) ([decide (h.tsn = g.tsn) && decide (h.str = g.str) && decide (h.seq = g.seq) && h.b == g.b && h.e == g.e && h.u == g.u] = [decide (h.tsn = g.tsn) && decide (h.str = g.str) && decide (h.seq = g.seq) && h.b == g.b && h.e == g.e && h.u == g.u] ∧
  SV.a (0 : Nat) = SV.a (0 : Nat)) True ∧ sw (decide (h.tsn = g.tsn) && decide (h.str = g.str) && decide (h.seq = g.seq) && h.b == g.b && h.e == g.e && h.u == g.u) ([decide (h.tsn = g.tsn) && decide (h.str = g.str) && decide (h.seq = g.seq) && h.b == g.b && h.e == g.e && h.u == g.u] = [decide (h.tsn = g.tsn) && decide (h.str = g.str) && decide (h.seq = g.seq) && h.b == g.b && h.e == g.e && h.u == g.u] ∧
  SV.c (Value.string (bstr h.bytes)) = SV.c (Value.string (bstr h.bytes))) True ∧ sw (decide (h.tsn = g.tsn) && decide (h.str = g.str) && decide (h.seq = g.seq) && h.b == g.b && h.e == g.e && h.u == g.u) (SV.p (3 : Nat) (6 : Nat) = SV.p (3 : Nat) (6 : Nat)) True ∧
  sw (decide (h.tsn = g.tsn) && decide (h.str = g.str) && decide (h.seq = g.seq) && h.b == g.b && h.e == g.e && h.u == g.u) ([decide (h.tsn = g.tsn) && decide (h.str = g.str) && decide (h.seq = g.seq) && h.b == g.b && h.e == g.e && h.u == g.u] = [decide (h.tsn = g.tsn) && decide (h.str = g.str) && decide (h.seq = g.seq) && h.b == g.b && h.e == g.e && h.u == g.u] ∧
  SV.a (1 : Nat) = SV.a (1 : Nat)) True ∧ sw (decide (h.tsn = g.tsn) && decide (h.str = g.str) && decide (h.seq = g.seq) && h.b == g.b && h.e == g.e && h.u == g.u) ([decide (h.tsn = g.tsn) && decide (h.str = g.str) && decide (h.seq = g.seq) && h.b == g.b && h.e == g.e && h.u == g.u] = [decide (h.tsn = g.tsn) && decide (h.str = g.str) && decide (h.seq = g.seq) && h.b == g.b && h.e == g.e && h.u == g.u] ∧
  SV.c (Value.string (bstr g.bytes)) = SV.c (Value.string (bstr g.bytes))) True ∧ sw (decide (h.tsn = g.tsn) && decide (h.str = g.str) && decide (h.seq = g.seq) && h.b == g.b && h.e == g.e && h.u == g.u) ([decide (h.tsn = g.tsn) && decide (h.str = g.str) && decide (h.seq = g.seq) && h.b == g.b && h.e == g.e && h.u == g.u] = [decide (h.tsn = g.tsn) && decide (h.str = g.str) && decide (h.seq = g.seq) && h.b == g.b && h.e == g.e && h.u == g.u] ∧
  [decide (h.tsn = g.tsn) && decide (h.str = g.str) && decide (h.seq = g.seq) && h.b == g.b && h.e == g.e && h.u == g.u] = [decide (h.tsn = g.tsn) && decide (h.str = g.str) && decide (h.seq = g.seq) && h.b == g.b && h.e == g.e && h.u == g.u] ∧
  True ∧ SV.c (Value.bool (decide ((bstr h.bytes).data.toList = (bstr g.bytes).data.toList))) = SV.c (Value.bool (decide ((bstr h.bytes).data.toList = (bstr g.bytes).data.toList)))) True ∧
  [decide (h.tsn = g.tsn) && decide (h.str = g.str) && decide (h.seq = g.seq) && h.b == g.b && h.e == g.e && h.u == g.u] = [decide (h.tsn = g.tsn) && decide (h.str = g.str) && decide (h.seq = g.seq) && h.b == g.b && h.e == g.e && h.u == g.u] ∧
  (decide (h.tsn = g.tsn) && decide (h.str = g.str) && decide (h.seq = g.seq) && h.b == g.b && h.e == g.e && h.u == g.u && decide ((bstr h.bytes).data.toList = (bstr g.bytes).data.toList)) = samePie (PieR.mk h.tsn h.str h.seq h.b h.e h.u h.bytes) (PieR.mk g.tsn g.str g.seq g.b g.e g.u g.bytes) ∧
  (true && true) = true := by
  simp only [↓sw_iff, ↓Bool.and_eq_true, ↓Bool.and_eq_false_iff, ↓decide_eq_true_eq, ↓decide_eq_false_iff_not, true_and, and_true, implies_true, bytes_dec, pie_eta]
  intro h g
  rfl
set_option maxRecDepth 100000 in
theorem ok27 : FnIs Try.prog 27 samePieC := by
  refine fnIs (C := (ctrs c0)) (by kernel_rfl) c0_ok Try.func27 (code := code27) (by kernel_rfl) (by kernel_rfl) ?_
  rintro a ⟨h, g, rfl⟩
  exact ⟨anns [], kcast (vc27 h g) (by kernel_rfl)⟩

end Go.ZR

/- The statement of pieces: contracts. -/
set_option maxRecDepth 100000
namespace Go.ZR
open Go.Z Go.ZM Go.Proofs
def pieLawC : Ctr := trueC 2 fun a => ∃ p c, a = [pieO p, chO c] ∧ okPie p ∧ chOk c
def c20 : List (Nat × Ctr) := [(17, ansC), (23, fromPieC), (24, fromPieC), (25, sameC), (26, toPieC), (28, toPieC), (27, samePieC), (15, ownWC)]
theorem c20_ok : COk Try.prog (ctrs c20) := cok_cons ok17 (cok_cons ok23 (cok_cons ok24 (cok_cons ok25 (cok_cons ok26 (cok_cons ok28 (cok_cons ok27 (cok_cons ok15w cok_nil)))))))
theorem toPie_len (c : ChR) (h : sm c.v.length) : sm (toPie c).1.bytes.length := by
  unfold toPie
  split
  · exact Nat.zero_le _
  · unfold pieOf pie1; simp only; unfold sm at *; split
    · rw [List.length_drop]; omega
    · exact Nat.zero_le _
end Go.ZR

/- What a side has heard: plain functions, laws. -/
set_option maxRecDepth 100000
namespace Go.ZM
open Go.Z Go.ZR

structure HeaR where
  cum : Int
  win : Int
  gaps : List (Int × Int)
  dups : List Int
def noHea : HeaR := ⟨0, 0, [], []⟩
def gapCell (l : List (Int × Int)) (i j : Nat) : D :=
  match j with
  | 0 => .v (.int .u16 (l.getD i (0, 0)).1)
  | _ => .v (.int .u16 (l.getD i (0, 0)).2)
def gapAt (g : Nat → D) : Int × Int := (vi (g 0), vi (g 1))
def gapsOf : D → List (Int × Int)
  | .recs _ n f => (List.range n).map fun i => gapAt (f i)
  | _ => []
theorem gapsOf_gaps (l : List (Int × Int)) : gapsOf (.recs 2 l.length (gapCell l)) = l := range_getD l (0, 0)
def okG (g : Int × Int) : Prop := (0 ≤ g.1 ∧ g.1 ≤ 65535) ∧ (0 ≤ g.2 ∧ g.2 ≤ 65535)
def okGs (l : List (Int × Int)) : Prop := l.length ≤ 1073741824 ∧ ∀ g, g ∈ l → okG g
def okDs (l : List Int) : Prop := l.length ≤ 1073741824 ∧ ∀ n, n ∈ l → 0 ≤ n ∧ n ≤ 4294967295
def okHea (h : HeaR) : Prop := (0 ≤ h.cum ∧ h.cum ≤ 4294967295) ∧ (0 ≤ h.win ∧ h.win ≤ 4294967295) ∧ okGs h.gaps ∧ okDs h.dups
def apartG : Int → List (Int × Int) → Bool
  | _, [] => true
  | a, g :: l => if g.1 < a + 2 ∨ g.2 < g.1 then false else apartG g.2 l
def apartF (l : List (Int × Int)) : Bool := apartG 0 l
def gapB (g : Int × Int) : List Int := be g.1 2 ++ be g.2 2
def gapsB (l : List (Int × Int)) : List Int := l.flatMap gapB
def dupsB (l : List Int) : List Int := l.flatMap fun n => be n 4
def heaH (h : HeaR) : List Int := be h.cum 4 ++ be h.win 4 ++ be (h.gaps.length : Int) 2 ++ be (h.dups.length : Int) 2
def heaB (h : HeaR) : List Int := heaH h ++ gapsB h.gaps ++ dupsB h.dups
def fromHea (h : HeaR) : ChR × Int :=
  if apartF h.gaps = false then (noCh, 2) else if 64 < h.gaps.length ∨ 64 < h.dups.length then (noCh, 4) else (⟨3, 0, heaB h⟩, 0)
def gapsG (v : List Int) (n : Nat) : List (Int × Int) := (List.range n).map fun (k : Nat) => (numAt v ((12 + 4 * k : Nat) : Int) 2, numAt v ((14 + 4 * k : Nat) : Int) 2)
def dupsG (v : List Int) (g n : Nat) : List Int := (List.range n).map fun (k : Nat) => numAt v ((12 + 4 * g + 4 * k : Nat) : Int) 4
def nGap (v : List Int) : Int := numAt v 8 2
def nDup (v : List Int) : Int := numAt v 10 2
def hea1 (v : List Int) (g d : Nat) : HeaR := ⟨numAt v 0 4, numAt v 4 4, gapsG v g, dupsG v g d⟩
def heaOf (v : List Int) : HeaR := hea1 v (nGap v).toNat (nDup v).toNat
def badHea (c : ChR) : Prop := c.t ≠ 3 ∨ c.f ≠ 0 ∨ c.v.length < 12 ∨ 64 < nGap c.v ∨ 64 < nDup c.v
instance (c : ChR) : Decidable (badHea c) := by unfold badHea; infer_instance
def toHea (c : ChR) : HeaR × Int :=
  if badHea c then (noHea, 2) else if (c.v.length : Int) ≠ 12 + 4 * nGap c.v + 4 * nDup c.v ∨ apartF (heaOf c.v).gaps = false then (noHea, 2) else (heaOf c.v, 0)
def toHeaRef (c : ChR) : HeaR × Int :=
  if c.t ≠ 3 ∨ c.v.length < 12 then (noHea, 2) else
  if 64 < nGap c.v ∨ 64 < nDup c.v ∨ (c.v.length : Int) ≠ 12 + 4 * nGap c.v + 4 * nDup c.v then (noHea, 2) else
  if (fromHea (heaOf c.v)).2 ≠ 0 ∨ sameB (fromHea (heaOf c.v)).1 c = false then (noHea, 2) else (heaOf c.v, 0)
def sameHea (h g : HeaR) : Bool :=
  (List.range (min h.gaps.length g.gaps.length)).all (fun i => decide (h.gaps.getD i (0, 0) = g.gaps.getD i (0, 0))) &&
  (List.range (min h.dups.length g.dups.length)).all (fun i => decide (h.dups.getD i 0 = g.dups.getD i 0)) &&
  (decide (h.cum = g.cum) && decide (h.win = g.win) && decide (h.gaps.length = g.gaps.length) && decide (h.dups.length = g.dups.length))

theorem gapsB_len (l : List (Int × Int)) : (gapsB l).length = 4 * l.length := by
  induction l with
  | nil => rfl
  | cons g l ih => unfold gapsB at ih ⊢; rw [List.flatMap_cons, List.length_append, ih]; simp [gapB, be_len]; omega
theorem dupsB_len (l : List Int) : (dupsB l).length = 4 * l.length := by
  induction l with
  | nil => rfl
  | cons g l ih => unfold dupsB at ih ⊢; rw [List.flatMap_cons, List.length_append, ih]; simp [be_len]; omega
theorem heaH_len (h : HeaR) : (heaH h).length = 12 := by simp [heaH, be_len]
theorem heaB_len (h : HeaR) : (heaB h).length = 12 + 4 * h.gaps.length + 4 * h.dups.length := by
  unfold heaB; rw [List.length_append, List.length_append, heaH_len, gapsB_len, dupsB_len]
theorem gapsB_append (l m : List (Int × Int)) : gapsB (l ++ m) = gapsB l ++ gapsB m := List.flatMap_append
theorem dupsB_append (l m : List Int) : dupsB (l ++ m) = dupsB l ++ dupsB m := List.flatMap_append
theorem gapsB_one (g : Int × Int) : gapsB [g] = gapB g := by simp [gapsB]
theorem dupsB_one (n : Int) : dupsB [n] = be n 4 := by simp [dupsB]
theorem gapsG_len (v : List Int) (n : Nat) : (gapsG v n).length = n := by simp [gapsG]
theorem dupsG_len (v : List Int) (g n : Nat) : (dupsG v g n).length = n := by simp [dupsG]
theorem gapsG_succ (v : List Int) (n : Nat) : gapsG v (n + 1) = gapsG v n ++ [(numAt v ((12 + 4 * n : Nat) : Int) 2, numAt v ((14 + 4 * n : Nat) : Int) 2)] := by
  unfold gapsG; rw [List.range_succ, List.map_append]; rfl
theorem dupsG_succ (v : List Int) (g n : Nat) : dupsG v g (n + 1) = dupsG v g n ++ [numAt v ((12 + 4 * g + 4 * n : Nat) : Int) 4] := by
  unfold dupsG; rw [List.range_succ, List.map_append]; rfl
theorem take_two (v : List Int) (i a b : Nat) : (v.drop i).take a ++ (v.drop (i + a)).take b = (v.drop i).take (a + b) := by
  rw [List.take_add, List.drop_drop]
theorem gaps_split {v : List Int} (hv : okB v) : ∀ n, 12 + 4 * n ≤ v.length → gapsB (gapsG v n) = (v.drop 12).take (4 * n)
  | 0, _ => by simp [gapsG, gapsB]
  | n + 1, h => by
    rw [gapsG_succ, gapsB_append, gaps_split hv n (by omega), gapsB_one]
    unfold gapB
    rw [at_take hv (by omega), at_take hv (by omega), show 14 + 4 * n = (12 + 4 * n) + 2 by omega, take_two, take_two]
    rfl
theorem dups_split {v : List Int} (hv : okB v) (g : Nat) : ∀ n, 12 + 4 * g + 4 * n ≤ v.length → dupsB (dupsG v g n) = (v.drop (12 + 4 * g)).take (4 * n)
  | 0, _ => by simp [dupsG, dupsB]
  | n + 1, h => by
    rw [dupsG_succ, dupsB_append, dups_split hv g n (by omega), dupsB_one]
    rw [at_take hv (by omega), take_two]
    rfl
theorem n_rng {v : List Int} (hv : okB v) : (0 ≤ nGap v ∧ nGap v ≤ 65535) ∧ (0 ≤ nDup v ∧ nDup v ≤ 65535) := by
  have a1 := num_rng hv 8 (k := 2)
  have a2 := num_rng hv 10 (k := 2)
  have p2 : (256 : Int) ^ 2 = 65536 := rfl
  rw [p2] at a1 a2
  unfold nGap nDup
  omega
theorem hea_split {v : List Int} (hv : okB v) (h : (v.length : Int) = 12 + 4 * nGap v + 4 * nDup v) : heaB (heaOf v) = v := by
  obtain ⟨⟨g0, g1⟩, ⟨d0, d1⟩⟩ := n_rng hv
  have hl : v.length = 12 + 4 * (nGap v).toNat + 4 * (nDup v).toNat := by omega
  unfold heaB heaOf heaH hea1
  simp only
  rw [gaps_split hv _ (by omega), dups_split hv _ _ (by omega), gapsG_len, dupsG_len]
  rw [show (((nGap v).toNat : Nat) : Int) = nGap v by omega, show (((nDup v).toNat : Nat) : Int) = nDup v by omega]
  unfold nGap nDup
  rw [show be (numAt v 0 4) 4 = _ from at_take (i := 0) hv (by omega), show be (numAt v 4 4) 4 = _ from at_take (i := 4) hv (by omega), show be (numAt v 8 2) 2 = _ from at_take (i := 8) hv (by omega), show be (numAt v 10 2) 2 = _ from at_take (i := 10) hv (by omega)]
  have s1 : (v.drop 0).take 4 ++ (v.drop 4).take 4 = (v.drop 0).take 8 := take_two v 0 4 4
  have s2 : (v.drop 0).take 8 ++ (v.drop 8).take 2 = (v.drop 0).take 10 := take_two v 0 8 2
  have s3 : (v.drop 0).take 10 ++ (v.drop 10).take 2 = (v.drop 0).take 12 := take_two v 0 10 2
  have s4 : ∀ G, (v.drop 0).take 12 ++ (v.drop 12).take G = (v.drop 0).take (12 + G) := fun G => take_two v 0 12 G
  have s5 : ∀ G D, (v.drop 0).take G ++ (v.drop G).take D = (v.drop 0).take (G + D) := fun G D => by
    have := take_two v 0 G D
    rwa [Nat.zero_add] at this
  rw [s1, s2, s3, s4, s5, List.drop_zero]
  exact List.take_of_length_le (by unfold nGap nDup at hl; omega)
theorem gapsG_get (v : List Int) (n k : Nat) (h : k < (gapsG v n).length) : (gapsG v n)[k] = (numAt v ((12 + 4 * k : Nat) : Int) 2, numAt v ((14 + 4 * k : Nat) : Int) 2) := by
  simp [gapsG]
theorem dupsG_get (v : List Int) (g n k : Nat) (h : k < (dupsG v g n).length) : (dupsG v g n)[k] = numAt v ((12 + 4 * g + 4 * k : Nat) : Int) 4 := by
  simp [dupsG]
theorem gap_in {l : List (Int × Int)} {H R : List Int} (hH : H.length = 12) (hl : ∀ g, g ∈ l → okG g) : gapsG (H ++ gapsB l ++ R) l.length = l := by
  apply List.ext_getElem (gapsG_len _ _)
  intro k h1 h2
  have hs : l = l.take k ++ (l[k] :: l.drop (k + 1)) := by rw [List.getElem_cons_drop, List.take_append_drop]
  have hg := hl _ (List.getElem_mem h2)
  have p2 : (256 : Int) ^ 2 = 65536 := rfl
  have e : H ++ gapsB l ++ R = (H ++ gapsB (l.take k)) ++ (be l[k].1 2 ++ (be l[k].2 2 ++ (gapsB (l.drop (k + 1)) ++ R))) := by
    have : gapsB l = gapsB (l.take k) ++ (gapB l[k] ++ gapsB (l.drop (k + 1))) := by
      conv => lhs; rw [hs]
      rw [gapsB_append, show l[k] :: l.drop (k + 1) = [l[k]] ++ l.drop (k + 1) from rfl, gapsB_append, gapsB_one]
    rw [this]; simp [gapB]
  have ht : (l.take k).length = k := by rw [List.length_take]; omega
  have a1 := num_in (12 + 4 * k) e (by rw [List.length_append, hH, gapsB_len, ht])
  have e2 : H ++ gapsB l ++ R = (H ++ gapsB (l.take k) ++ be l[k].1 2) ++ (be l[k].2 2 ++ (gapsB (l.drop (k + 1)) ++ R)) := by rw [e]; simp
  have a2 := num_in (14 + 4 * k) e2 (by rw [List.length_append, List.length_append, hH, gapsB_len, ht, be_len]; omega)
  rw [gapsG_get, a1, a2, p2]
  obtain ⟨x, y⟩ := hg
  exact Prod.ext (by simp only; omega) (by simp only; omega)
theorem dup_in {l : List Int} {H : List Int} {g : Nat} (hH : H.length = 12 + 4 * g) (hl : ∀ n, n ∈ l → 0 ≤ n ∧ n ≤ 4294967295) : dupsG (H ++ dupsB l) g l.length = l := by
  apply List.ext_getElem (dupsG_len _ _ _)
  intro k h1 h2
  have hs : l = l.take k ++ (l[k] :: l.drop (k + 1)) := by rw [List.getElem_cons_drop, List.take_append_drop]
  have hg := hl _ (List.getElem_mem h2)
  have p4 : (256 : Int) ^ 4 = 4294967296 := rfl
  have e : H ++ dupsB l = (H ++ dupsB (l.take k)) ++ (be l[k] 4 ++ dupsB (l.drop (k + 1))) := by
    have : dupsB l = dupsB (l.take k) ++ (be l[k] 4 ++ dupsB (l.drop (k + 1))) := by
      conv => lhs; rw [hs]
      rw [dupsB_append, show l[k] :: l.drop (k + 1) = [l[k]] ++ l.drop (k + 1) from rfl, dupsB_append, dupsB_one]
    rw [this]; simp
  have ht : (l.take k).length = k := by rw [List.length_take]; omega
  have a1 := num_in (12 + 4 * g + 4 * k) e (by rw [List.length_append, hH, dupsB_len, ht])
  rw [dupsG_get, a1, p4]
  omega
theorem fromHea_ok {h : HeaR} (e : (fromHea h).2 = 0) : (apartF h.gaps = true ∧ h.gaps.length ≤ 64 ∧ h.dups.length ≤ 64) ∧ (fromHea h).1 = ⟨3, 0, heaB h⟩ := by
  unfold fromHea at e ⊢
  split at e
  · cases e
  rename_i h1
  split at e
  · cases e
  rename_i h2
  rw [if_neg h1, if_neg h2]
  exact ⟨⟨by simpa using h1, by omega, by omega⟩, rfl⟩
theorem hea_nums {h : HeaR} (ok : okHea h) (hg : h.gaps.length ≤ 64) (hd : h.dups.length ≤ 64) : nGap (heaB h) = (h.gaps.length : Int) ∧ nDup (heaB h) = (h.dups.length : Int) ∧ heaOf (heaB h) = h := by
  obtain ⟨h1, h2, ⟨_, h3⟩, ⟨_, h4⟩⟩ := ok
  have p4 : (256 : Int) ^ 4 = 4294967296 := rfl
  have p2 : (256 : Int) ^ 2 = 65536 := rfl
  have a1 : numAt (heaB h) 0 4 = h.cum := by
    have := num_in (v := heaB h) (a := []) (n := h.cum) (k := 4) (r := be h.win 4 ++ be (h.gaps.length : Int) 2 ++ be (h.dups.length : Int) 2 ++ gapsB h.gaps ++ dupsB h.dups) 0 (by simp [heaB, heaH]) rfl
    rw [p4] at this; exact this.trans (by omega)
  have a2 : numAt (heaB h) 4 4 = h.win := by
    have := num_in (v := heaB h) (a := be h.cum 4) (n := h.win) (k := 4) (r := be (h.gaps.length : Int) 2 ++ be (h.dups.length : Int) 2 ++ gapsB h.gaps ++ dupsB h.dups) 4 (by simp [heaB, heaH]) (by simp [be_len])
    rw [p4] at this; exact this.trans (by omega)
  have a3 : nGap (heaB h) = (h.gaps.length : Int) := by
    have := num_in (v := heaB h) (a := be h.cum 4 ++ be h.win 4) (n := (h.gaps.length : Int)) (k := 2) (r := be (h.dups.length : Int) 2 ++ gapsB h.gaps ++ dupsB h.dups) 8 (by simp [heaB, heaH]) (by simp [be_len])
    rw [p2] at this; exact this.trans (by omega)
  have a4 : nDup (heaB h) = (h.dups.length : Int) := by
    have := num_in (v := heaB h) (a := be h.cum 4 ++ be h.win 4 ++ be (h.gaps.length : Int) 2) (n := (h.dups.length : Int)) (k := 2) (r := gapsB h.gaps ++ dupsB h.dups) 10 (by simp [heaB, heaH]) (by simp [be_len])
    rw [p2] at this; exact this.trans (by omega)
  refine ⟨a3, a4, ?_⟩
  unfold heaOf hea1
  rw [a1, a2, a3, a4, Int.toNat_natCast, Int.toNat_natCast]
  unfold heaB
  rw [gap_in (heaH_len h) h3, dup_in (by rw [List.length_append, heaH_len, gapsB_len]) h4]
theorem toHea_made {h : HeaR} (ok : okHea h) (e : (fromHea h).2 = 0) : toHea (fromHea h).1 = (h, 0) := by
  obtain ⟨⟨h0, h1, h2⟩, h3⟩ := fromHea_ok e
  obtain ⟨a1, a2, a3⟩ := hea_nums ok h1 h2
  have hl := heaB_len h
  unfold toHea badHea
  rw [h3]
  simp only
  rw [a1, a2, a3, if_neg, if_neg]
  · rw [h0]; simp; omega
  · omega
theorem toHea_eq {c : ChR} (hv : okB c.v) : toHea c = toHeaRef c := by
  unfold toHea toHeaRef
  by_cases hb : c.t ≠ 3 ∨ c.v.length < 12
  · rw [if_pos (by unfold badHea; omega), if_pos hb]
  rw [if_neg hb]
  by_cases hc : 64 < nGap c.v ∨ 64 < nDup c.v ∨ (c.v.length : Int) ≠ 12 + 4 * nGap c.v + 4 * nDup c.v
  · rw [if_pos hc]
    split
    · rfl
    · rename_i hh
      unfold badHea at hh
      rw [if_pos (.inl (by omega))]
  rw [if_neg hc]
  have hl : (c.v.length : Int) = 12 + 4 * nGap c.v + 4 * nDup c.v := by omega
  have hs := hea_split hv hl
  have hg : (heaOf c.v).gaps.length ≤ 64 := by unfold heaOf hea1; simp only; rw [gapsG_len]; omega
  have hd : (heaOf c.v).dups.length ≤ 64 := by unfold heaOf hea1; simp only; rw [dupsG_len]; omega
  cases ha : apartF (heaOf c.v).gaps with
  | false =>
    have hf : fromHea (heaOf c.v) = (noCh, 2) := by unfold fromHea; rw [if_pos ha]
    rw [if_pos (c := (fromHea (heaOf c.v)).2 ≠ 0 ∨ _) (.inl (by rw [hf]; decide))]
    split
    · rfl
    · rw [if_pos (.inr rfl)]
  | true =>
    have hf : fromHea (heaOf c.v) = (⟨3, 0, c.v⟩, 0) := by unfold fromHea; rw [if_neg (by rw [ha]; decide), if_neg (by omega), hs]
    rw [hf]
    by_cases h0 : c.f = 0
    · have : (⟨3, 0, c.v⟩ : ChR) = c := by
        have : c.t = 3 := by omega
        cases c; simp only at this h0 ⊢; rw [this, h0]
      rw [if_neg (by unfold badHea; omega), if_neg (by simp; omega), if_neg]
      rw [sameB_eq.2 this]; simp
    · have hsb : sameB ⟨3, 0, c.v⟩ c = false := by
        simp only [sameB, Bool.and_eq_false_iff, decide_eq_false_iff_not]
        exact .inl (.inr fun h => h0 h.symm)
      rw [if_pos (by unfold badHea; omega), if_pos (.inr hsb)]
theorem sameHea_refl (h : HeaR) : sameHea h h = true := by
  unfold sameHea
  simp
theorem gapsB_ok : ∀ l, okB (gapsB l)
  | [] => fun x hx => by cases hx
  | g :: l => by unfold gapsB; rw [List.flatMap_cons]; exact okB_append (okB_append (be_ok _ _) (be_ok _ _)) (gapsB_ok l)
theorem dupsB_ok : ∀ l, okB (dupsB l)
  | [] => fun x hx => by cases hx
  | g :: l => by unfold dupsB; rw [List.flatMap_cons]; exact okB_append (be_ok _ _) (dupsB_ok l)
theorem fromHea_okB (h : HeaR) : okB (fromHea h).1.v := by
  unfold fromHea
  split
  · exact fun x hx => by cases hx
  split
  · exact fun x hx => by cases hx
  exact okB_append (okB_append (okB_append (okB_append (okB_append (be_ok _ _) (be_ok _ _)) (be_ok _ _)) (be_ok _ _)) (gapsB_ok _)) (dupsB_ok _)
theorem fromHea_len (h : HeaR) : (fromHea h).1.v.length ≤ 600 := by
  unfold fromHea
  split
  · exact Nat.zero_le _
  split
  · exact Nat.zero_le _
  · simp only; rw [heaB_len]; omega
theorem apartG_append (l : List (Int × Int)) : ∀ a m, apartG a (l ++ m) = (apartG a l && apartG ((l.getLast?.map Prod.snd).getD a) m) := by
  induction l with
  | nil => intro a m; rfl
  | cons g l ih =>
    intro a m
    rw [List.cons_append, apartG, apartG]
    split
    · rfl
    · rw [ih]
      cases l with
      | nil => rfl
      | cons g' l => rw [List.getLast?_cons_cons]; cases h : (g' :: l).getLast? with
        | none => simp at h
        | some x => rfl
end Go.ZM

/- What a side has heard: contracts. -/
set_option maxRecDepth 100000
namespace Go.ZR
open Go.Z Go.ZM Go.Proofs
def gapsD (l : List (Int × Int)) : D := .recs 2 l.length (gapCell l)
def dupsD (l : List Int) : D := .ints .u32 l
def heaO (h : HeaR) : O := .agg [iO .u32 h.cum, iO .u32 h.win, .d (gapsD h.gaps), .d (dupsD h.dups)]
def heaN (h : HeaR) : O := .agg [iO .u32 h.cum, iO .u32 h.win, .own 96 (gapsD h.gaps), .own 31 (dupsD h.dups)]
def heaOfO : O → HeaR
  | .agg [a, b, c, d] => ⟨vi (dO a), vi (dO b), gapsOf (dO c), vl (dO d)⟩
  | _ => noHea
def apartC : Ctr := nC 1 true (fun a => ∃ l, a = [.d (gapsD l)] ∧ okGs l) fun a => [bO (apartF (gapsOf (dO (at_ a 0))))]
def fromHeaC : Ctr := nC 1 false (fun a => ∃ h, a = [heaO h] ∧ okHea h) fun a => [chN (fromHea (heaOfO (at_ a 0))).1, iO .i64 (fromHea (heaOfO (at_ a 0))).2]
def allC : Ctr where
  own := [true]
  pre := fun a => ∃ (v : List Int) (i : Int) (b : Bool), a = [rdO v i b] ∧ sm v.length
  res := fun a => [bO (!(rdOf (at_ a 0)).2.2 && decide ((rdOf (at_ a 0)).2.1 = ((rdOf (at_ a 0)).1.length : Int)))]
  upd := fun a => [rdO (rdOf (at_ a 0)).1 (rdOf (at_ a 0)).2.1 (rdOf (at_ a 0)).2.2]
  ro := true
  quiet := false
def toHeaC : Ctr := rC 1 (fun a => ∃ c, a = [chO c] ∧ okB c.v ∧ sm c.v.length ∧ 0 ≤ c.f ∧ c.f ≤ 255) fun a => [heaN (toHea (chOf (at_ a 0))).1, iO .i64 (toHea (chOf (at_ a 0))).2]
def sameHeaC : Ctr := nC 2 true (fun a => ∃ h g, a = [heaO h, heaO g] ∧ okHea h ∧ okHea g) fun a => [bO (sameHea (heaOfO (at_ a 0)) (heaOfO (at_ a 1)))]
def apartAnn (s t : Nat) (l : List (Int × Int)) : LoopAnn where
  γ := Nat × Int
  pre := fun g => g.1 ≤ l.length ∧ (0 ≤ g.2 ∧ g.2 ≤ 65535) ∧ apartG g.2 (l.drop g.1) = apartF l
  μ := fun g => l.length - g.1
  items := fun g => [(s, .c (iO .i64 (g.1 : Int))), (t, .c (iO .i64 g.2))]
def gapsAnn (s t : Nat) (h : HeaR) : LoopAnn where
  γ := Nat
  pre := fun i => i ≤ h.gaps.length
  μ := fun i => h.gaps.length - i
  items := fun i => [(s, .c (iO .i64 (i : Int))), (t, .c (bsN (heaH h ++ gapsB (h.gaps.take i))))]
def dupsAnn (s t : Nat) (h : HeaR) : LoopAnn where
  γ := Nat
  pre := fun i => i ≤ h.dups.length
  μ := fun i => h.dups.length - i
  items := fun i => [(s, .c (iO .i64 (i : Int))), (t, .c (bsN (heaH h ++ gapsB h.gaps ++ dupsB (h.dups.take i))))]
def samesG (s : Nat) (h g : HeaR) : LoopAnn where
  γ := Nat
  pre := fun i => i ≤ h.gaps.length ∧ i ≤ g.gaps.length ∧ ∀ j, j < i → h.gaps.getD j (0, 0) = g.gaps.getD j (0, 0)
  μ := fun i => h.gaps.length - i
  items := fun i => [(s, .c (iO .i64 (i : Int)))]
def samesD (s : Nat) (h g : HeaR) : LoopAnn where
  γ := Nat
  pre := fun i => i ≤ h.dups.length ∧ i ≤ g.dups.length ∧ ∀ j, j < i → h.dups.getD j 0 = g.dups.getD j 0
  μ := fun i => h.dups.length - i
  items := fun i => [(s, .c (iO .i64 (i : Int)))]
def c24 : List (Nat × Ctr) := [(45, putC), (58, apartC)]
def c25 : List (Nat × Ctr) := [(47, putC), (59, apartC)]
/-- As read so far: the reader, and what was taken. -/
def readG (c : ChR) (s rd he : Nat) : LoopAnn where
  γ := Nat
  pre := fun i => i ≤ (nGap c.v).toNat
  μ := fun i => (nGap c.v).toNat - i
  items := fun i => [(s, .c (iO .i64 (i : Int))), (rd, .blk [.o (bsO c.v), .o (iO .i64 ((12 + 4 * i : Nat) : Int)), .o (bO (decide (c.v.length < 12 + 4 * i)))]), (he, .blk [.same, .same, .o (.own 96 (gapsD (gapsG c.v i))), .same])]
def readD (c : ChR) (s rd he : Nat) : LoopAnn where
  γ := Nat
  pre := fun i => i ≤ (nDup c.v).toNat
  μ := fun i => (nDup c.v).toNat - i
  items := fun i => [(s, .c (iO .i64 (i : Int))), (rd, .blk [.o (bsO c.v), .o (iO .i64 ((12 + 4 * (nGap c.v).toNat + 4 * i : Nat) : Int)), .o (bO (decide (c.v.length < 12 + 4 * (nGap c.v).toNat + 4 * i)))]), (he, .blk [.same, .same, .same, .o (.own 31 (dupsD (dupsG c.v (nGap c.v).toNat i)))])]
def readG' (c : ChR) (s he : Nat) : LoopAnn where
  γ := Nat
  pre := fun i => i ≤ (nGap c.v).toNat
  μ := fun i => (nGap c.v).toNat - i
  items := fun i => [(s, .c (iO .i64 (i : Int))), (he, .blk [.same, .same, .o (.own 96 (gapsD (gapsG c.v i))), .same])]
def readD' (c : ChR) (s he : Nat) : LoopAnn where
  γ := Nat
  pre := fun i => i ≤ (nDup c.v).toNat
  μ := fun i => (nDup c.v).toNat - i
  items := fun i => [(s, .c (iO .i64 (i : Int))), (he, .blk [.same, .same, .same, .o (.own 31 (dupsD (dupsG c.v (nGap c.v).toNat i)))])]
def c26 : List (Nat × Ctr) := [(53, rdC), (60, allC), (58, apartC)]
def c27 : List (Nat × Ctr) := [(50, numQ), (35, fromHeaC), (25, sameC)]
end Go.ZR

/- What a side has heard: walked. -/
namespace Go.ZR
open Go.Proofs
open Go.Z Go.ZM Go.RowKit
set_option maxRecDepth 100000
theorem hea_eta (h : HeaR) : HeaR.mk h.cum h.win h.gaps h.dups = h := rfl
theorem take_snoc {α : Type} {l : List α} {i : Nat} (d : α) (h : i < l.length) : l.take (i + 1) = l.take i ++ [l.getD i d] := by
  rw [List.take_succ_eq_append_getElem h]; simp [List.getD, List.getElem?_eq_getElem h]
theorem drop_getD {α : Type} {l : List α} {i : Nat} (d : α) (h : i < l.length) : l.drop i = l.getD i d :: l.drop (i + 1) := by
  rw [List.drop_eq_getElem_cons h]; simp [List.getD, List.getElem?_eq_getElem h]
theorem fromHea_e1 {h : HeaR} (e : apartF h.gaps = false) : fromHea h = (noCh, 2) := by unfold fromHea; rw [if_pos e]
theorem fromHea_e2 {h : HeaR} (e : apartF h.gaps = true) (e' : 64 < h.gaps.length ∨ 64 < h.dups.length) : fromHea h = (noCh, 4) := by unfold fromHea; rw [if_neg (by rw [e]; decide), if_pos e']
theorem fromHea_e3 {h : HeaR} (e : apartF h.gaps = true) (e' : ¬ (64 < h.gaps.length ∨ 64 < h.dups.length)) : fromHea h = (⟨3, 0, heaB h⟩, 0) := by unfold fromHea; rw [if_neg (by rw [e]; decide), if_neg e']
noncomputable def code58 : Code := match Try.f58.body with | some c => c | none => .skip
set_option maxHeartbeats 4000000 in
theorem vc58 : ∀ (l : List (Int × Int)), okGs l → ∃ (g0 : Nat × Int), (g0.fst ≤ l.length ∧ ((0 : Int) ≤ g0.snd ∧ g0.snd ≤ (65535 : Int)) ∧ apartG g0.snd (List.drop g0.fst l) = apartF l) ∧
  (0 : Int) = (↑g0.fst : Int) ∧ (0 : Int) = g0.snd ∧ (true && true) = true ∧ ∀ (g : Nat × Int), g.fst ≤ l.length ∧ ((0 : Int) ≤ g.snd ∧ g.snd ≤ (65535 : Int)) ∧
  apartG g.snd (List.drop g.fst l) = apartF l → True ∧ sw (decide ((↑g.fst : Int) < (↑l.length : Int))) (((0 : Int) ≤ (↑g.fst : Int) ∧ (↑g.fst : Int) < (↑l.length : Int)) ∧
  True ∧ True ∧ sw (!decide (IntKind.i64.wrap (l.getD (↑g.fst : Int).toNat ((0 : Int), (0 : Int))).fst < IntKind.i64.wrap (g.snd + (2 : Int)))) (SV.p (1 : Nat) (1 : Nat) = SV.p (1 : Nat) (1 : Nat)) True ∧
  sw (!decide (IntKind.i64.wrap (l.getD (↑g.fst : Int).toNat ((0 : Int), (0 : Int))).fst < IntKind.i64.wrap (g.snd + (2 : Int)))) ([!decide (IntKind.i64.wrap (l.getD (↑g.fst : Int).toNat ((0 : Int), (0 : Int))).fst < IntKind.i64.wrap (g.snd + (2 : Int)))] = [!decide (IntKind.i64.wrap (l.getD (↑g.fst : Int).toNat ((0 : Int), (0 : Int))).fst < IntKind.i64.wrap (g.snd + (2 : Int)))] ∧
  SV.c (Value.int IntKind.u16 (l.getD (↑g.fst : Int).toNat ((0 : Int), (0 : Int))).snd) = SV.c (Value.int IntKind.u16 (l.getD (↑g.fst : Int).toNat ((0 : Int), (0 : Int))).snd)) True ∧
  sw (!decide (IntKind.i64.wrap (l.getD (↑g.fst : Int).toNat ((0 : Int), (0 : Int))).fst < IntKind.i64.wrap (g.snd + (2 : Int)))) (SV.p (1 : Nat) (0 : Nat) = SV.p (1 : Nat) (0 : Nat)) True ∧
  sw (!decide (IntKind.i64.wrap (l.getD (↑g.fst : Int).toNat ((0 : Int), (0 : Int))).fst < IntKind.i64.wrap (g.snd + (2 : Int)))) ([!decide (IntKind.i64.wrap (l.getD (↑g.fst : Int).toNat ((0 : Int), (0 : Int))).fst < IntKind.i64.wrap (g.snd + (2 : Int)))] = [!decide (IntKind.i64.wrap (l.getD (↑g.fst : Int).toNat ((0 : Int), (0 : Int))).fst < IntKind.i64.wrap (g.snd + (2 : Int)))] ∧
  SV.c (Value.int IntKind.u16 (l.getD (↑g.fst : Int).toNat ((0 : Int), (0 : Int))).fst) = SV.c (Value.int IntKind.u16 (l.getD (↑g.fst : Int).toNat ((0 : Int), (0 : Int))).fst)) True ∧
  sw (!decide (IntKind.i64.wrap (l.getD (↑g.fst : Int).toNat ((0 : Int), (0 : Int))).fst < IntKind.i64.wrap (g.snd + (2 : Int)))) ([!decide (IntKind.i64.wrap (l.getD (↑g.fst : Int).toNat ((0 : Int), (0 : Int))).fst < IntKind.i64.wrap (g.snd + (2 : Int)))] = [!decide (IntKind.i64.wrap (l.getD (↑g.fst : Int).toNat ((0 : Int), (0 : Int))).fst < IntKind.i64.wrap (g.snd + (2 : Int)))] ∧
  [!decide (IntKind.i64.wrap (l.getD (↑g.fst : Int).toNat ((0 : Int), (0 : Int))).fst < IntKind.i64.wrap (g.snd + (2 : Int)))] = [!decide (IntKind.i64.wrap (l.getD (↑g.fst : Int).toNat ((0 : Int), (0 : Int))).fst < IntKind.i64.wrap (g.snd + (2 : Int)))] ∧
  True ∧ SV.c (Value.bool (decide ((l.getD (↑g.fst : Int).toNat ((0 : Int), (0 : Int))).snd < (l.getD (↑g.fst : Int).toNat ((0 : Int), (0 : Int))).fst))) = SV.c (Value.bool (decide ((l.getD (↑g.fst : Int).toNat ((0 : Int), (0 : Int))).snd < (l.getD (↑g.fst : Int).toNat ((0 : Int), (0 : Int))).fst)))) True ∧
  [!decide (IntKind.i64.wrap (l.getD (↑g.fst : Int).toNat ((0 : Int), (0 : Int))).fst < IntKind.i64.wrap (g.snd + (2 : Int)))] = [!decide (IntKind.i64.wrap (l.getD (↑g.fst : Int).toNat ((0 : Int), (0 : Int))).fst < IntKind.i64.wrap (g.snd + (2 : Int)))] ∧
  sw (decide (IntKind.i64.wrap (l.getD (↑g.fst : Int).toNat ((0 : Int), (0 : Int))).fst < IntKind.i64.wrap (g.snd + (2 : Int))) || decide ((l.getD (↑g.fst : Int).toNat ((0 : Int), (0 : Int))).snd < (l.getD (↑g.fst : Int).toNat ((0 : Int), (0 : Int))).fst)) (false = apartF (gapsOf (D.recs (2 : Nat) l.length (gapCell l))) ∧
  (true && true) = true) (True ∧ ∃ (g' : Nat × Int), (g'.fst ≤ l.length ∧ ((0 : Int) ≤ g'.snd ∧ g'.snd ≤ (65535 : Int)) ∧ apartG g'.snd (List.drop g'.fst l) = apartF l) ∧
  l.length - g'.fst < l.length - g.fst ∧ (IntKind.i64.wrap ((↑g.fst : Int) + (1 : Int)) = (↑g'.fst : Int) ∧ IntKind.i64.wrap (l.getD (↑g.fst : Int).toNat ((0 : Int), (0 : Int))).snd = g'.snd ∧
  (true && true && true) = true) ∧ (some (SV.c (Value.int IntKind.i64 (↑l.length : Int))) = some (SV.c (Value.int IntKind.i64 (↑l.length : Int))) ∧ some (SV.a (0 : Nat)) = some (SV.a (0 : Nat)) ∧
  some (SV.a (0 : Nat)) = some (SV.a (0 : Nat)) ∧ True) ∧ some (R.ro (D.recs (2 : Nat) l.length (gapCell l))) = some (R.ro (D.recs (2 : Nat) l.length (gapCell l))) ∧
  True)) (true = apartF (gapsOf (D.recs (2 : Nat) l.length (gapCell l))) ∧ (true && true) = true) := by
  simp only [↓sw_iff, ↓Bool.and_eq_true, ↓decide_eq_true_eq, ↓decide_eq_false_iff_not, ↓Bool.not_eq_true', ↓Bool.not_eq_false', true_and, and_true, implies_true, Int.toNat_natCast, gapsOf_gaps]
  intro l h
  refine ⟨(0, 0), ⟨Nat.zero_le _, ⟨by decide, by decide⟩, rfl⟩, rfl, rfl, ?_⟩
  rintro ⟨i, a⟩ ⟨g1, ⟨g2, g3⟩, g4⟩
  simp only at g1 g2 g3 g4 ⊢
  have hL := h.1
  refine ⟨fun hlt => ?_, fun hge => ?_⟩
  · have hi : i < l.length := by omega
    obtain ⟨⟨m1, m2⟩, ⟨m3, m4⟩⟩ := h.2 _ (getD_mem (d := ((0 : Int), (0 : Int))) hi)
    have w1 : IntKind.i64.wrap (l.getD i (0, 0)).1 = _ := wrap_i64_id (by omega) (by omega)
    have w2 : IntKind.i64.wrap (a + 2) = _ := wrap_i64_id (by omega) (by omega)
    have w3 : IntKind.i64.wrap (l.getD i (0, 0)).2 = _ := wrap_i64_id (by omega) (by omega)
    have w4 : IntKind.i64.wrap ((i : Int) + 1) = _ := wrap_i64_id (by omega) (by omega)
    rw [drop_getD (0, 0) hi, apartG] at g4
    refine ⟨⟨by omega, by omega⟩, fun e => ?_, fun e => ?_⟩
    · have e' : (l.getD i (0, 0)).1 < a + 2 ∨ (l.getD i (0, 0)).2 < (l.getD i (0, 0)).1 := by
        rcases Bool.or_eq_true_iff.1 e with e | e
        · have e := of_decide_eq_true e
          rw [w1, w2] at e
          exact .inl e
        · exact .inr (of_decide_eq_true e)
      rw [if_pos e'] at g4; exact g4
    obtain ⟨e1, e2⟩ := Bool.or_eq_false_iff.1 e
    have e1 := of_decide_eq_false e1
    have e2 := of_decide_eq_false e2
    rw [w1, w2] at e1
    rw [if_neg (by omega)] at g4
    exact ⟨(i + 1, (l.getD i (0, 0)).2), ⟨hi, ⟨m3, m4⟩, g4⟩, by simp only; omega, w4, w3⟩
  · rw [List.drop_of_length_le (by omega)] at g4
    exact g4
set_option maxRecDepth 100000 in
theorem ok58 : FnIs Try.prog 58 apartC := by
  refine fnIs (C := (ctrs c0)) (by kernel_rfl) c0_ok Try.func58 (code := code58) (by kernel_rfl) (by kernel_rfl) ?_
  rintro a ⟨l, rfl, h⟩
  exact ⟨anns [(3, apartAnn 8 3 l)], kcast (vc58 l h) (by kernel_rfl)⟩

noncomputable def code59 : Code := match Try.f59.body with | some c => c | none => .skip
set_option maxHeartbeats 4000000 in
theorem vc59 : ∀ (l : List (Int × Int)), okGs l → ∃ (g0 : Nat × Int), (g0.fst ≤ l.length ∧ ((0 : Int) ≤ g0.snd ∧ g0.snd ≤ (65535 : Int)) ∧ apartG g0.snd (List.drop g0.fst l) = apartF l) ∧
  (0 : Int) = (↑g0.fst : Int) ∧ (0 : Int) = g0.snd ∧ (true && true) = true ∧ ∀ (g : Nat × Int), g.fst ≤ l.length ∧ ((0 : Int) ≤ g.snd ∧ g.snd ≤ (65535 : Int)) ∧
  apartG g.snd (List.drop g.fst l) = apartF l → True ∧ sw (decide ((↑g.fst : Int) < (↑l.length : Int))) (((0 : Int) ≤ (↑g.fst : Int) ∧ (↑g.fst : Int) < (↑l.length : Int)) ∧
  True ∧ True ∧ sw (!decide (IntKind.i64.wrap (l.getD (↑g.fst : Int).toNat ((0 : Int), (0 : Int))).fst < IntKind.i64.wrap (g.snd + (2 : Int)))) (SV.a (0 : Nat) = SV.a (0 : Nat)) True ∧
  sw (!decide (IntKind.i64.wrap (l.getD (↑g.fst : Int).toNat ((0 : Int), (0 : Int))).fst < IntKind.i64.wrap (g.snd + (2 : Int)))) (SV.c (Value.int IntKind.i64 (↑g.fst : Int)) = SV.c (Value.int IntKind.i64 (↑g.fst : Int))) True ∧
  sw (!decide (IntKind.i64.wrap (l.getD (↑g.fst : Int).toNat ((0 : Int), (0 : Int))).fst < IntKind.i64.wrap (g.snd + (2 : Int)))) ([!decide (IntKind.i64.wrap (l.getD (↑g.fst : Int).toNat ((0 : Int), (0 : Int))).fst < IntKind.i64.wrap (g.snd + (2 : Int)))] = [!decide (IntKind.i64.wrap (l.getD (↑g.fst : Int).toNat ((0 : Int), (0 : Int))).fst < IntKind.i64.wrap (g.snd + (2 : Int)))] ∧
  [!decide (IntKind.i64.wrap (l.getD (↑g.fst : Int).toNat ((0 : Int), (0 : Int))).fst < IntKind.i64.wrap (g.snd + (2 : Int)))] = [!decide (IntKind.i64.wrap (l.getD (↑g.fst : Int).toNat ((0 : Int), (0 : Int))).fst < IntKind.i64.wrap (g.snd + (2 : Int)))] ∧
  ((0 : Int) ≤ (↑g.fst : Int) ∧ (↑g.fst : Int) < (↑l.length : Int)) ∧ SV.e (0 : Nat) Try.prog.types[(96 : Nat)].size (↑g.fst : Int).toNat (0 : Nat) = SV.e (0 : Nat) Try.prog.types[(96 : Nat)].size (↑g.fst : Int).toNat (0 : Nat)) True ∧
  sw (!decide (IntKind.i64.wrap (l.getD (↑g.fst : Int).toNat ((0 : Int), (0 : Int))).fst < IntKind.i64.wrap (g.snd + (2 : Int)))) ([!decide (IntKind.i64.wrap (l.getD (↑g.fst : Int).toNat ((0 : Int), (0 : Int))).fst < IntKind.i64.wrap (g.snd + (2 : Int)))] = [!decide (IntKind.i64.wrap (l.getD (↑g.fst : Int).toNat ((0 : Int), (0 : Int))).fst < IntKind.i64.wrap (g.snd + (2 : Int)))] ∧
  SV.e (0 : Nat) Try.prog.types[(96 : Nat)].size (↑g.fst : Int).toNat (0 : Nat) = SV.e (0 : Nat) Try.prog.types[(96 : Nat)].size (↑g.fst : Int).toNat (0 : Nat)) True ∧
  sw (!decide (IntKind.i64.wrap (l.getD (↑g.fst : Int).toNat ((0 : Int), (0 : Int))).fst < IntKind.i64.wrap (g.snd + (2 : Int)))) ([!decide (IntKind.i64.wrap (l.getD (↑g.fst : Int).toNat ((0 : Int), (0 : Int))).fst < IntKind.i64.wrap (g.snd + (2 : Int)))] = [!decide (IntKind.i64.wrap (l.getD (↑g.fst : Int).toNat ((0 : Int), (0 : Int))).fst < IntKind.i64.wrap (g.snd + (2 : Int)))] ∧
  SV.c (Value.int IntKind.u16 (l.getD (↑g.fst : Int).toNat ((0 : Int), (0 : Int))).fst) = SV.c (Value.int IntKind.u16 (l.getD (↑g.fst : Int).toNat ((0 : Int), (0 : Int))).fst)) True ∧
  sw (!decide (IntKind.i64.wrap (l.getD (↑g.fst : Int).toNat ((0 : Int), (0 : Int))).fst < IntKind.i64.wrap (g.snd + (2 : Int)))) (SV.a (0 : Nat) = SV.a (0 : Nat)) True ∧
  sw (!decide (IntKind.i64.wrap (l.getD (↑g.fst : Int).toNat ((0 : Int), (0 : Int))).fst < IntKind.i64.wrap (g.snd + (2 : Int)))) (SV.c (Value.int IntKind.i64 (↑g.fst : Int)) = SV.c (Value.int IntKind.i64 (↑g.fst : Int))) True ∧
  sw (!decide (IntKind.i64.wrap (l.getD (↑g.fst : Int).toNat ((0 : Int), (0 : Int))).fst < IntKind.i64.wrap (g.snd + (2 : Int)))) ([!decide (IntKind.i64.wrap (l.getD (↑g.fst : Int).toNat ((0 : Int), (0 : Int))).fst < IntKind.i64.wrap (g.snd + (2 : Int)))] = [!decide (IntKind.i64.wrap (l.getD (↑g.fst : Int).toNat ((0 : Int), (0 : Int))).fst < IntKind.i64.wrap (g.snd + (2 : Int)))] ∧
  [!decide (IntKind.i64.wrap (l.getD (↑g.fst : Int).toNat ((0 : Int), (0 : Int))).fst < IntKind.i64.wrap (g.snd + (2 : Int)))] = [!decide (IntKind.i64.wrap (l.getD (↑g.fst : Int).toNat ((0 : Int), (0 : Int))).fst < IntKind.i64.wrap (g.snd + (2 : Int)))] ∧
  ((0 : Int) ≤ (↑g.fst : Int) ∧ (↑g.fst : Int) < (↑l.length : Int)) ∧ SV.e (0 : Nat) Try.prog.types[(96 : Nat)].size (↑g.fst : Int).toNat (0 : Nat) = SV.e (0 : Nat) Try.prog.types[(96 : Nat)].size (↑g.fst : Int).toNat (0 : Nat)) True ∧
  sw (!decide (IntKind.i64.wrap (l.getD (↑g.fst : Int).toNat ((0 : Int), (0 : Int))).fst < IntKind.i64.wrap (g.snd + (2 : Int)))) ([!decide (IntKind.i64.wrap (l.getD (↑g.fst : Int).toNat ((0 : Int), (0 : Int))).fst < IntKind.i64.wrap (g.snd + (2 : Int)))] = [!decide (IntKind.i64.wrap (l.getD (↑g.fst : Int).toNat ((0 : Int), (0 : Int))).fst < IntKind.i64.wrap (g.snd + (2 : Int)))] ∧
  SV.e (0 : Nat) Try.prog.types[(96 : Nat)].size (↑g.fst : Int).toNat (1 : Nat) = SV.e (0 : Nat) Try.prog.types[(96 : Nat)].size (↑g.fst : Int).toNat (1 : Nat)) True ∧
  sw (!decide (IntKind.i64.wrap (l.getD (↑g.fst : Int).toNat ((0 : Int), (0 : Int))).fst < IntKind.i64.wrap (g.snd + (2 : Int)))) ([!decide (IntKind.i64.wrap (l.getD (↑g.fst : Int).toNat ((0 : Int), (0 : Int))).fst < IntKind.i64.wrap (g.snd + (2 : Int)))] = [!decide (IntKind.i64.wrap (l.getD (↑g.fst : Int).toNat ((0 : Int), (0 : Int))).fst < IntKind.i64.wrap (g.snd + (2 : Int)))] ∧
  SV.c (Value.int IntKind.u16 (l.getD (↑g.fst : Int).toNat ((0 : Int), (0 : Int))).snd) = SV.c (Value.int IntKind.u16 (l.getD (↑g.fst : Int).toNat ((0 : Int), (0 : Int))).snd)) True ∧
  sw (!decide (IntKind.i64.wrap (l.getD (↑g.fst : Int).toNat ((0 : Int), (0 : Int))).fst < IntKind.i64.wrap (g.snd + (2 : Int)))) ([!decide (IntKind.i64.wrap (l.getD (↑g.fst : Int).toNat ((0 : Int), (0 : Int))).fst < IntKind.i64.wrap (g.snd + (2 : Int)))] = [!decide (IntKind.i64.wrap (l.getD (↑g.fst : Int).toNat ((0 : Int), (0 : Int))).fst < IntKind.i64.wrap (g.snd + (2 : Int)))] ∧
  [!decide (IntKind.i64.wrap (l.getD (↑g.fst : Int).toNat ((0 : Int), (0 : Int))).fst < IntKind.i64.wrap (g.snd + (2 : Int)))] = [!decide (IntKind.i64.wrap (l.getD (↑g.fst : Int).toNat ((0 : Int), (0 : Int))).fst < IntKind.i64.wrap (g.snd + (2 : Int)))] ∧
  True ∧ SV.c (Value.bool (decide ((l.getD (↑g.fst : Int).toNat ((0 : Int), (0 : Int))).snd < (l.getD (↑g.fst : Int).toNat ((0 : Int), (0 : Int))).fst))) = SV.c (Value.bool (decide ((l.getD (↑g.fst : Int).toNat ((0 : Int), (0 : Int))).snd < (l.getD (↑g.fst : Int).toNat ((0 : Int), (0 : Int))).fst)))) True ∧
  [!decide (IntKind.i64.wrap (l.getD (↑g.fst : Int).toNat ((0 : Int), (0 : Int))).fst < IntKind.i64.wrap (g.snd + (2 : Int)))] = [!decide (IntKind.i64.wrap (l.getD (↑g.fst : Int).toNat ((0 : Int), (0 : Int))).fst < IntKind.i64.wrap (g.snd + (2 : Int)))] ∧
  sw (decide (IntKind.i64.wrap (l.getD (↑g.fst : Int).toNat ((0 : Int), (0 : Int))).fst < IntKind.i64.wrap (g.snd + (2 : Int))) || decide ((l.getD (↑g.fst : Int).toNat ((0 : Int), (0 : Int))).snd < (l.getD (↑g.fst : Int).toNat ((0 : Int), (0 : Int))).fst)) (false = apartF (gapsOf (D.recs (2 : Nat) l.length (gapCell l))) ∧
  (true && true) = true) (((0 : Int) ≤ (↑g.fst : Int) ∧ (↑g.fst : Int) < (↑l.length : Int)) ∧ True ∧ ∃ (g' : Nat × Int), (g'.fst ≤ l.length ∧ ((0 : Int) ≤ g'.snd ∧
  g'.snd ≤ (65535 : Int)) ∧ apartG g'.snd (List.drop g'.fst l) = apartF l) ∧ l.length - g'.fst < l.length - g.fst ∧ (IntKind.i64.wrap ((↑g.fst : Int) + (1 : Int)) = (↑g'.fst : Int) ∧
  IntKind.i64.wrap (l.getD (↑g.fst : Int).toNat ((0 : Int), (0 : Int))).snd = g'.snd ∧ (true && true && true) = true) ∧ (some (SV.a (0 : Nat)) = some (SV.a (0 : Nat)) ∧
  True) ∧ some (R.ro (D.recs (2 : Nat) l.length (gapCell l))) = some (R.ro (D.recs (2 : Nat) l.length (gapCell l))) ∧ True)) (true = apartF (gapsOf (D.recs (2 : Nat) l.length (gapCell l))) ∧
  (true && true) = true) := by
  simp only [↓sw_iff, ↓Bool.and_eq_true, ↓decide_eq_true_eq, ↓decide_eq_false_iff_not, ↓Bool.not_eq_true', ↓Bool.not_eq_false', true_and, and_true, implies_true, Int.toNat_natCast, gapsOf_gaps]
  intro l h
  refine ⟨(0, 0), ⟨Nat.zero_le _, ⟨by decide, by decide⟩, rfl⟩, rfl, rfl, ?_⟩
  rintro ⟨i, a⟩ ⟨g1, ⟨g2, g3⟩, g4⟩
  simp only at g1 g2 g3 g4 ⊢
  have hL := h.1
  refine ⟨fun hlt => ?_, fun hge => ?_⟩
  · have hi : i < l.length := by omega
    obtain ⟨⟨m1, m2⟩, ⟨m3, m4⟩⟩ := h.2 _ (getD_mem (d := ((0 : Int), (0 : Int))) hi)
    have w1 : IntKind.i64.wrap (l.getD i (0, 0)).1 = _ := wrap_i64_id (by omega) (by omega)
    have w2 : IntKind.i64.wrap (a + 2) = _ := wrap_i64_id (by omega) (by omega)
    have w3 : IntKind.i64.wrap (l.getD i (0, 0)).2 = _ := wrap_i64_id (by omega) (by omega)
    have w4 : IntKind.i64.wrap ((i : Int) + 1) = _ := wrap_i64_id (by omega) (by omega)
    rw [drop_getD (0, 0) hi, apartG] at g4
    refine ⟨⟨by omega, by omega⟩, fun _ => ⟨by omega, by omega⟩, fun _ => ⟨by omega, by omega⟩, fun e => ?_, fun e => ?_⟩
    · have e' : (l.getD i (0, 0)).1 < a + 2 ∨ (l.getD i (0, 0)).2 < (l.getD i (0, 0)).1 := by
        rcases Bool.or_eq_true_iff.1 e with e | e
        · have e := of_decide_eq_true e
          rw [w1, w2] at e
          exact .inl e
        · exact .inr (of_decide_eq_true e)
      rw [if_pos e'] at g4; exact g4
    obtain ⟨e1, e2⟩ := Bool.or_eq_false_iff.1 e
    have e1 := of_decide_eq_false e1
    have e2 := of_decide_eq_false e2
    rw [w1, w2] at e1
    rw [if_neg (by omega)] at g4
    exact ⟨⟨by omega, by omega⟩, (i + 1, (l.getD i (0, 0)).2), ⟨hi, ⟨m3, m4⟩, g4⟩, by simp only; omega, w4, w3⟩
  · rw [List.drop_of_length_le (by omega)] at g4
    exact g4
set_option maxRecDepth 100000 in
theorem ok59 : FnIs Try.prog 59 apartC := by
  refine fnIs (C := (ctrs c0)) (by kernel_rfl) c0_ok Try.func59 (code := code59) (by kernel_rfl) (by kernel_rfl) ?_
  rintro a ⟨l, rfl, h⟩
  exact ⟨anns [(3, apartAnn 4 3 l)], kcast (vc59 l h) (by kernel_rfl)⟩

noncomputable def code60 : Code := match Try.f60.body with | some c => c | none => .skip
set_option maxHeartbeats 4000000 in
theorem vc60 : ∀ (v : List Int) (i : Int) (b : Bool), sm v.length → sw (!b) (SV.p (1 : Nat) (0 : Nat) = SV.p (1 : Nat) (0 : Nat)) True ∧ sw (!b) ([!b] = [!b] ∧ SV.p (1 : Nat) (0 : Nat) = SV.p (1 : Nat) (0 : Nat)) True ∧
  sw (!b) ([!b] = [!b] ∧ SV.p (1 : Nat) (1 : Nat) = SV.p (1 : Nat) (1 : Nat)) True ∧ sw (!b) ([!b] = [!b] ∧ SV.c (Value.int IntKind.i64 i) = SV.c (Value.int IntKind.i64 i)) True ∧
  sw (!b) (SV.p (1 : Nat) (0 : Nat) = SV.p (1 : Nat) (0 : Nat)) True ∧ sw (!b) ([!b] = [!b] ∧ SV.p (1 : Nat) (0 : Nat) = SV.p (1 : Nat) (0 : Nat)) True ∧
  sw (!b) ([!b] = [!b] ∧ SV.p (1 : Nat) (0 : Nat) = SV.p (1 : Nat) (0 : Nat)) True ∧ sw (!b) ([!b] = [!b] ∧ SV.a (0 : Nat) = SV.a (0 : Nat)) True ∧ sw (!b) ([!b] = [!b] ∧
  SV.c (Value.int IntKind.i64 (↑v.length : Int)) = SV.c (Value.int IntKind.i64 (↑v.length : Int))) True ∧ sw (!b) ([!b] = [!b] ∧ [!b] = [!b] ∧ True ∧ SV.c (Value.bool (decide (i = (↑v.length : Int)))) = SV.c (Value.bool (decide (i = (↑v.length : Int))))) True ∧
  [!b] = [!b] ∧ v = v ∧ i = i ∧ b = b ∧ (!b && decide (i = (↑v.length : Int))) = (!b && decide (i = (↑v.length : Int))) ∧ (!false && true && true) = true := by
  simp only [↓sw_iff, ↓Bool.and_eq_true, ↓Bool.not_eq_true', ↓Bool.not_eq_false', and_true, implies_true]
set_option maxRecDepth 100000 in
theorem ok60 : FnIs Try.prog 60 allC := by
  refine fnIs (C := (ctrs c0)) (by kernel_rfl) c0_ok Try.func60 (code := code60) (by kernel_rfl) (by kernel_rfl) ?_
  rintro a ⟨v, i, b, rfl, h⟩
  exact ⟨anns [], kcast (vc60 v i b h) (by kernel_rfl)⟩

theorem c24_ok : COk Try.prog (ctrs c24) := cok_cons ok45 (cok_cons ok58 cok_nil)
theorem c25_ok : COk Try.prog (ctrs c25) := cok_cons ok47 (cok_cons ok59 cok_nil)

noncomputable def code34 : Code := match Try.f34.body with | some c => c | none => .skip
set_option maxHeartbeats 4000000 in
theorem vc34 : ∀ (h : HeaR), okHea h → (∃ (l : List (Int × Int)), [O.d (D.recs (2 : Nat) h.gaps.length (gapCell h.gaps))] = [O.d (D.recs (2 : Nat) l.length (gapCell l))] ∧
  okGs l) ∧ sw (!apartF (gapsOf (D.recs (2 : Nat) h.gaps.length (gapCell h.gaps)))) ((0 : Int) = (fromHea (HeaR.mk h.cum h.win (gapsOf (D.recs (2 : Nat) h.gaps.length (gapCell h.gaps))) h.dups)).fst.t ∧
  (0 : Int) = (fromHea (HeaR.mk h.cum h.win (gapsOf (D.recs (2 : Nat) h.gaps.length (gapCell h.gaps))) h.dups)).fst.f ∧ (fromHea (HeaR.mk h.cum h.win (gapsOf (D.recs (2 : Nat) h.gaps.length (gapCell h.gaps))) h.dups)).fst.v = [] ∧
  (2 : Int) = (fromHea (HeaR.mk h.cum h.win (gapsOf (D.recs (2 : Nat) h.gaps.length (gapCell h.gaps))) h.dups)).snd ∧ (true && true) = true) (True ∧ sw (!decide ((64 : Int) < (↑h.gaps.length : Int))) (SV.p (2 : Nat) (3 : Nat) = SV.p (2 : Nat) (3 : Nat)) True ∧
  sw (!decide ((64 : Int) < (↑h.gaps.length : Int))) ([!decide ((64 : Int) < (↑h.gaps.length : Int))] = [!decide ((64 : Int) < (↑h.gaps.length : Int))] ∧
  SV.a (1 : Nat) = SV.a (1 : Nat)) True ∧ sw (!decide ((64 : Int) < (↑h.gaps.length : Int))) ([!decide ((64 : Int) < (↑h.gaps.length : Int))] = [!decide ((64 : Int) < (↑h.gaps.length : Int))] ∧
  SV.c (Value.int IntKind.i64 (↑h.dups.length : Int)) = SV.c (Value.int IntKind.i64 (↑h.dups.length : Int))) True ∧ sw (!decide ((64 : Int) < (↑h.gaps.length : Int))) ([!decide ((64 : Int) < (↑h.gaps.length : Int))] = [!decide ((64 : Int) < (↑h.gaps.length : Int))] ∧
  True ∧ SV.c (Value.bool (decide ((64 : Int) < (↑h.dups.length : Int)))) = SV.c (Value.bool (decide ((64 : Int) < (↑h.dups.length : Int))))) True ∧ [!decide ((64 : Int) < (↑h.gaps.length : Int))] = [!decide ((64 : Int) < (↑h.gaps.length : Int))] ∧
  sw (decide ((64 : Int) < (↑h.gaps.length : Int)) || decide ((64 : Int) < (↑h.dups.length : Int))) ((0 : Int) = (fromHea (HeaR.mk h.cum h.win (gapsOf (D.recs (2 : Nat) h.gaps.length (gapCell h.gaps))) h.dups)).fst.t ∧
  (0 : Int) = (fromHea (HeaR.mk h.cum h.win (gapsOf (D.recs (2 : Nat) h.gaps.length (gapCell h.gaps))) h.dups)).fst.f ∧ (fromHea (HeaR.mk h.cum h.win (gapsOf (D.recs (2 : Nat) h.gaps.length (gapCell h.gaps))) h.dups)).fst.v = [] ∧
  (4 : Int) = (fromHea (HeaR.mk h.cum h.win (gapsOf (D.recs (2 : Nat) h.gaps.length (gapCell h.gaps))) h.dups)).snd ∧ (true && true) = true) (((∃ (b : List Int), ∃ (n : Int), ∃ (k : Nat), [O.d (D.ints IntKind.u8 []), O.d (D.v (Value.int IntKind.u64 (IntKind.u64.wrap h.cum))), O.d (D.v (Value.int IntKind.i64 (4 : Int)))] = [O.d (D.ints IntKind.u8 b), O.d (D.v (Value.int IntKind.u64 n)), O.d (D.v (Value.int IntKind.i64 (↑k : Int)))] ∧
  sm b.length ∧ (1 : Nat) ≤ k ∧ k ≤ (8 : Nat)) ∧ ((∃ (b : List Int), ∃ (n : Int), ∃ (k : Nat), [O.d (D.ints IntKind.u8 ([] ++ be (IntKind.u64.wrap h.cum) (Int.toNat (4 : Int)))), O.d (D.v (Value.int IntKind.u64 (IntKind.u64.wrap h.win))), O.d (D.v (Value.int IntKind.i64 (4 : Int)))] = [O.d (D.ints IntKind.u8 b), O.d (D.v (Value.int IntKind.u64 n)), O.d (D.v (Value.int IntKind.i64 (↑k : Int)))] ∧
  sm b.length ∧ (1 : Nat) ≤ k ∧ k ≤ (8 : Nat)) ∧ ((∃ (b : List Int), ∃ (n : Int), ∃ (k : Nat), [O.d (D.ints IntKind.u8 ([] ++ be (IntKind.u64.wrap h.cum) (Int.toNat (4 : Int)) ++ be (IntKind.u64.wrap h.win) (Int.toNat (4 : Int)))), O.d (D.v (Value.int IntKind.u64 (IntKind.u64.wrap (↑h.gaps.length : Int)))), O.d (D.v (Value.int IntKind.i64 (2 : Int)))] = [O.d (D.ints IntKind.u8 b), O.d (D.v (Value.int IntKind.u64 n)), O.d (D.v (Value.int IntKind.i64 (↑k : Int)))] ∧
  sm b.length ∧ (1 : Nat) ≤ k ∧ k ≤ (8 : Nat)) ∧ ((∃ (b : List Int), ∃ (n : Int), ∃ (k : Nat), [O.d (D.ints IntKind.u8 ([] ++ be (IntKind.u64.wrap h.cum) (Int.toNat (4 : Int)) ++ be (IntKind.u64.wrap h.win) (Int.toNat (4 : Int)) ++ be (IntKind.u64.wrap (↑h.gaps.length : Int)) (Int.toNat (2 : Int)))), O.d (D.v (Value.int IntKind.u64 (IntKind.u64.wrap (↑h.dups.length : Int)))), O.d (D.v (Value.int IntKind.i64 (2 : Int)))] = [O.d (D.ints IntKind.u8 b), O.d (D.v (Value.int IntKind.u64 n)), O.d (D.v (Value.int IntKind.i64 (↑k : Int)))] ∧
  sm b.length ∧ (1 : Nat) ≤ k ∧ k ≤ (8 : Nat)) ∧ ∃ (g0 : Nat), g0 ≤ h.gaps.length ∧ (0 : Int) = (↑g0 : Int) ∧ [] ++ be (IntKind.u64.wrap h.cum) (Int.toNat (4 : Int)) ++ be (IntKind.u64.wrap h.win) (Int.toNat (4 : Int)) ++ be (IntKind.u64.wrap (↑h.gaps.length : Int)) (Int.toNat (2 : Int)) ++ be (IntKind.u64.wrap (↑h.dups.length : Int)) (Int.toNat (2 : Int)) = heaH h ++ gapsB (List.take g0 h.gaps) ∧
  (!false && true && true) = true ∧ ∀ (g : Nat), g ≤ h.gaps.length → True ∧ sw (decide ((↑g : Int) < (↑h.gaps.length : Int))) (((0 : Int) ≤ (↑g : Int) ∧ (↑g : Int) < (↑h.gaps.length : Int)) ∧
  ((∃ (b : List Int), ∃ (n : Int), ∃ (k : Nat), [O.d (D.ints IntKind.u8 (heaH h ++ gapsB (List.take g h.gaps))), O.d (D.v (Value.int IntKind.u64 (IntKind.u64.wrap (h.gaps.getD (↑g : Int).toNat ((0 : Int), (0 : Int))).fst))), O.d (D.v (Value.int IntKind.i64 (2 : Int)))] = [O.d (D.ints IntKind.u8 b), O.d (D.v (Value.int IntKind.u64 n)), O.d (D.v (Value.int IntKind.i64 (↑k : Int)))] ∧
  sm b.length ∧ (1 : Nat) ≤ k ∧ k ≤ (8 : Nat)) ∧ ((∃ (b : List Int), ∃ (n : Int), ∃ (k : Nat), [O.d (D.ints IntKind.u8 (heaH h ++ gapsB (List.take g h.gaps) ++ be (IntKind.u64.wrap (h.gaps.getD (↑g : Int).toNat ((0 : Int), (0 : Int))).fst) (Int.toNat (2 : Int)))), O.d (D.v (Value.int IntKind.u64 (IntKind.u64.wrap (h.gaps.getD (↑g : Int).toNat ((0 : Int), (0 : Int))).snd))), O.d (D.v (Value.int IntKind.i64 (2 : Int)))] = [O.d (D.ints IntKind.u8 b), O.d (D.v (Value.int IntKind.u64 n)), O.d (D.v (Value.int IntKind.i64 (↑k : Int)))] ∧
  sm b.length ∧ (1 : Nat) ≤ k ∧ k ≤ (8 : Nat)) ∧ True ∧ ∃ (g' : Nat), g' ≤ h.gaps.length ∧ h.gaps.length - g' < h.gaps.length - g ∧ (IntKind.i64.wrap ((↑g : Int) + (1 : Int)) = (↑g' : Int) ∧
  heaH h ++ gapsB (List.take g h.gaps) ++ be (IntKind.u64.wrap (h.gaps.getD (↑g : Int).toNat ((0 : Int), (0 : Int))).fst) (Int.toNat (2 : Int)) ++ be (IntKind.u64.wrap (h.gaps.getD (↑g : Int).toNat ((0 : Int), (0 : Int))).snd) (Int.toNat (2 : Int)) = heaH h ++ gapsB (List.take g' h.gaps) ∧
  (!false && true && true && ((Nat.ble (8 : Nat) (11 : Nat) || (Nat.beq (7 : Nat) (11 : Nat) || false)) && true)) = true) ∧ (some (SV.c (Value.int IntKind.i64 (↑h.gaps.length : Int))) = some (SV.c (Value.int IntKind.i64 (↑h.gaps.length : Int))) ∧
  some (SV.a (0 : Nat)) = some (SV.a (0 : Nat)) ∧ some (SV.p (2 : Nat) (2 : Nat)) = some (SV.p (2 : Nat) (2 : Nat)) ∧ some (SV.a (7 : Nat)) = some (SV.a (7 : Nat)) ∧
  some (SV.a (6 : Nat)) = some (SV.a (6 : Nat)) ∧ some (SV.c (Value.int IntKind.u64 (IntKind.u64.wrap (↑h.dups.length : Int)))) = some (SV.c (Value.int IntKind.u64 (IntKind.u64.wrap (↑h.dups.length : Int)))) ∧
  some (SV.c (Value.int IntKind.i64 (↑h.dups.length : Int))) = some (SV.c (Value.int IntKind.i64 (↑h.dups.length : Int))) ∧ some (SV.a (1 : Nat)) = some (SV.a (1 : Nat)) ∧
  some (SV.p (2 : Nat) (3 : Nat)) = some (SV.p (2 : Nat) (3 : Nat)) ∧ some (SV.c (Value.int IntKind.u64 (IntKind.u64.wrap (↑h.gaps.length : Int)))) = some (SV.c (Value.int IntKind.u64 (IntKind.u64.wrap (↑h.gaps.length : Int)))) ∧
  some (SV.c (Value.int IntKind.i64 (↑h.gaps.length : Int))) = some (SV.c (Value.int IntKind.i64 (↑h.gaps.length : Int))) ∧ some (SV.a (0 : Nat)) = some (SV.a (0 : Nat)) ∧
  some (SV.p (2 : Nat) (2 : Nat)) = some (SV.p (2 : Nat) (2 : Nat)) ∧ some (SV.a (5 : Nat)) = some (SV.a (5 : Nat)) ∧ some (SV.a (5 : Nat)) = some (SV.a (5 : Nat)) ∧
  some (SV.a (4 : Nat)) = some (SV.a (4 : Nat)) ∧ some (SV.c (Value.int IntKind.u64 (IntKind.u64.wrap h.win))) = some (SV.c (Value.int IntKind.u64 (IntKind.u64.wrap h.win))) ∧
  some (SV.c (Value.int IntKind.u32 h.win)) = some (SV.c (Value.int IntKind.u32 h.win)) ∧ some (SV.p (2 : Nat) (1 : Nat)) = some (SV.p (2 : Nat) (1 : Nat)) ∧
  some (SV.c (Value.int IntKind.u64 (IntKind.u64.wrap h.cum))) = some (SV.c (Value.int IntKind.u64 (IntKind.u64.wrap h.cum))) ∧ some (SV.c (Value.int IntKind.u32 h.cum)) = some (SV.c (Value.int IntKind.u32 h.cum)) ∧
  some (SV.p (2 : Nat) (0 : Nat)) = some (SV.p (2 : Nat) (0 : Nat)) ∧ some (SV.c (Value.bool (decide ((64 : Int) < (↑h.gaps.length : Int)) || decide ((64 : Int) < (↑h.dups.length : Int))))) = some (SV.c (Value.bool (decide ((64 : Int) < (↑h.gaps.length : Int)) || decide ((64 : Int) < (↑h.dups.length : Int))))) ∧
  some (SV.c (Value.bool (decide ((64 : Int) < (↑h.gaps.length : Int)) || decide ((64 : Int) < (↑h.dups.length : Int))))) = some (SV.c (Value.bool (decide ((64 : Int) < (↑h.gaps.length : Int)) || decide ((64 : Int) < (↑h.dups.length : Int))))) ∧
  some (SV.w [!decide ((64 : Int) < (↑h.gaps.length : Int))] (SV.c (Value.bool (decide ((64 : Int) < (↑h.dups.length : Int)))))) = some (SV.w [!decide ((64 : Int) < (↑h.gaps.length : Int))] (SV.c (Value.bool (decide ((64 : Int) < (↑h.dups.length : Int)))))) ∧
  some (SV.w [!decide ((64 : Int) < (↑h.gaps.length : Int))] (SV.c (Value.int IntKind.i64 (↑h.dups.length : Int)))) = some (SV.w [!decide ((64 : Int) < (↑h.gaps.length : Int))] (SV.c (Value.int IntKind.i64 (↑h.dups.length : Int)))) ∧
  some (SV.w [!decide ((64 : Int) < (↑h.gaps.length : Int))] (SV.a (1 : Nat))) = some (SV.w [!decide ((64 : Int) < (↑h.gaps.length : Int))] (SV.a (1 : Nat))) ∧
  some (SV.w [!decide ((64 : Int) < (↑h.gaps.length : Int))] (SV.p (2 : Nat) (3 : Nat))) = some (SV.w [!decide ((64 : Int) < (↑h.gaps.length : Int))] (SV.p (2 : Nat) (3 : Nat))) ∧
  some (SV.c (Value.bool (decide ((64 : Int) < (↑h.gaps.length : Int))))) = some (SV.c (Value.bool (decide ((64 : Int) < (↑h.gaps.length : Int))))) ∧ some (SV.c (Value.bool (decide ((64 : Int) < (↑h.gaps.length : Int))))) = some (SV.c (Value.bool (decide ((64 : Int) < (↑h.gaps.length : Int))))) ∧
  some (SV.c (Value.int IntKind.i64 (↑h.gaps.length : Int))) = some (SV.c (Value.int IntKind.i64 (↑h.gaps.length : Int))) ∧ some (SV.a (0 : Nat)) = some (SV.a (0 : Nat)) ∧
  some (SV.p (2 : Nat) (2 : Nat)) = some (SV.p (2 : Nat) (2 : Nat)) ∧ some (SV.c (Value.bool !apartF (gapsOf (D.recs (2 : Nat) h.gaps.length (gapCell h.gaps))))) = some (SV.c (Value.bool !apartF (gapsOf (D.recs (2 : Nat) h.gaps.length (gapCell h.gaps))))) ∧
  some (SV.c (Value.bool !apartF (gapsOf (D.recs (2 : Nat) h.gaps.length (gapCell h.gaps))))) = some (SV.c (Value.bool !apartF (gapsOf (D.recs (2 : Nat) h.gaps.length (gapCell h.gaps))))) ∧
  some (SV.c (Value.bool (apartF (gapsOf (D.recs (2 : Nat) h.gaps.length (gapCell h.gaps)))))) = some (SV.c (Value.bool (apartF (gapsOf (D.recs (2 : Nat) h.gaps.length (gapCell h.gaps)))))) ∧
  some (SV.a (0 : Nat)) = some (SV.a (0 : Nat)) ∧ some (SV.p (2 : Nat) (2 : Nat)) = some (SV.p (2 : Nat) (2 : Nat)) ∧ some (SV.c (Value.int IntKind.i64 (0 : Int))) = some (SV.c (Value.int IntKind.i64 (0 : Int))) ∧
  some (SV.p (3 : Nat) (0 : Nat)) = some (SV.p (3 : Nat) (0 : Nat)) ∧ some (SV.p (2 : Nat) (0 : Nat)) = some (SV.p (2 : Nat) (0 : Nat)) ∧ some (SV.agg [SV.c (Value.int IntKind.u32 h.cum), SV.c (Value.int IntKind.u32 h.win), SV.a (0 : Nat), SV.a (1 : Nat)]) = some (SV.agg [SV.c (Value.int IntKind.u32 h.cum), SV.c (Value.int IntKind.u32 h.win), SV.a (0 : Nat), SV.a (1 : Nat)]) ∧
  True) ∧ some (R.blk (63 : Nat) [SV.c (Value.int IntKind.u32 h.cum), SV.c (Value.int IntKind.u32 h.win), SV.a (0 : Nat), SV.a (1 : Nat)]) = some (R.blk (63 : Nat) [SV.c (Value.int IntKind.u32 h.cum), SV.c (Value.int IntKind.u32 h.win), SV.a (0 : Nat), SV.a (1 : Nat)]) ∧
  some (R.own (5 : Nat) (D.ints IntKind.u8 ([] ++ be (IntKind.u64.wrap h.cum) (Int.toNat (4 : Int)) ++ be (IntKind.u64.wrap h.win) (Int.toNat (4 : Int)) ++ be (IntKind.u64.wrap (↑h.gaps.length : Int)) (Int.toNat (2 : Int))))) = some (R.own (5 : Nat) (D.ints IntKind.u8 ([] ++ be (IntKind.u64.wrap h.cum) (Int.toNat (4 : Int)) ++ be (IntKind.u64.wrap h.win) (Int.toNat (4 : Int)) ++ be (IntKind.u64.wrap (↑h.gaps.length : Int)) (Int.toNat (2 : Int))))) ∧
  some (R.own (5 : Nat) (D.ints IntKind.u8 ([] ++ be (IntKind.u64.wrap h.cum) (Int.toNat (4 : Int)) ++ be (IntKind.u64.wrap h.win) (Int.toNat (4 : Int))))) = some (R.own (5 : Nat) (D.ints IntKind.u8 ([] ++ be (IntKind.u64.wrap h.cum) (Int.toNat (4 : Int)) ++ be (IntKind.u64.wrap h.win) (Int.toNat (4 : Int))))) ∧
  some (R.own (5 : Nat) (D.ints IntKind.u8 ([] ++ be (IntKind.u64.wrap h.cum) (Int.toNat (4 : Int))))) = some (R.own (5 : Nat) (D.ints IntKind.u8 ([] ++ be (IntKind.u64.wrap h.cum) (Int.toNat (4 : Int))))) ∧
  some (R.blk (45 : Nat) [SV.c (Value.int IntKind.u8 (0 : Int)), SV.c (Value.int IntKind.u8 (0 : Int)), SV.nil]) = some (R.blk (45 : Nat) [SV.c (Value.int IntKind.u8 (0 : Int)), SV.c (Value.int IntKind.u8 (0 : Int)), SV.nil]) ∧
  some (R.ro (D.ints IntKind.u32 h.dups)) = some (R.ro (D.ints IntKind.u32 h.dups)) ∧ some (R.ro (D.recs (2 : Nat) h.gaps.length (gapCell h.gaps))) = some (R.ro (D.recs (2 : Nat) h.gaps.length (gapCell h.gaps))) ∧
  True) ∧ True) ∧ True) (∃ (g0_1 : Nat), g0_1 ≤ h.dups.length ∧ (0 : Int) = (↑g0_1 : Int) ∧ heaH h ++ gapsB (List.take g h.gaps) = heaH h ++ gapsB h.gaps ++ dupsB (List.take g0_1 h.dups) ∧
  (!false && true && true) = true ∧ ∀ (g_1 : Nat), g_1 ≤ h.dups.length → True ∧ sw (decide ((↑g_1 : Int) < (↑h.dups.length : Int))) (((0 : Int) ≤ (↑g_1 : Int) ∧
  (↑g_1 : Int) < (↑h.dups.length : Int)) ∧ (∃ (b : List Int), ∃ (n : Int), ∃ (k : Nat), [O.d (D.ints IntKind.u8 (heaH h ++ gapsB h.gaps ++ dupsB (List.take g_1 h.dups))), O.d (D.v (Value.int IntKind.u64 (IntKind.u64.wrap (h.dups.getD (↑g_1 : Int).toNat (0 : Int))))), O.d (D.v (Value.int IntKind.i64 (4 : Int)))] = [O.d (D.ints IntKind.u8 b), O.d (D.v (Value.int IntKind.u64 n)), O.d (D.v (Value.int IntKind.i64 (↑k : Int)))] ∧
  sm b.length ∧ (1 : Nat) ≤ k ∧ k ≤ (8 : Nat)) ∧ True ∧ ∃ (g' : Nat), g' ≤ h.dups.length ∧ h.dups.length - g' < h.dups.length - g_1 ∧ (IntKind.i64.wrap ((↑g_1 : Int) + (1 : Int)) = (↑g' : Int) ∧
  heaH h ++ gapsB h.gaps ++ dupsB (List.take g_1 h.dups) ++ be (IntKind.u64.wrap (h.dups.getD (↑g_1 : Int).toNat (0 : Int))) (Int.toNat (4 : Int)) = heaH h ++ gapsB h.gaps ++ dupsB (List.take g' h.dups) ∧
  (!false && true && true && ((Nat.ble (9 : Nat) (10 : Nat) || (Nat.beq (8 : Nat) (10 : Nat) || false)) && true)) = true) ∧ (some (SV.c (Value.int IntKind.i64 (↑h.dups.length : Int))) = some (SV.c (Value.int IntKind.i64 (↑h.dups.length : Int))) ∧
  some (SV.a (1 : Nat)) = some (SV.a (1 : Nat)) ∧ some (SV.p (2 : Nat) (3 : Nat)) = some (SV.p (2 : Nat) (3 : Nat)) ∧ some (SV.c (Value.bool (decide ((↑g : Int) < (↑h.gaps.length : Int))))) = some (SV.c (Value.bool (decide ((↑g : Int) < (↑h.gaps.length : Int))))) ∧
  some (SV.c (Value.int IntKind.i64 (↑g : Int))) = some (SV.c (Value.int IntKind.i64 (↑g : Int))) ∧ some (SV.c (Value.int IntKind.i64 (↑h.gaps.length : Int))) = some (SV.c (Value.int IntKind.i64 (↑h.gaps.length : Int))) ∧
  some (SV.a (0 : Nat)) = some (SV.a (0 : Nat)) ∧ some (SV.p (2 : Nat) (2 : Nat)) = some (SV.p (2 : Nat) (2 : Nat)) ∧ some (SV.a (7 : Nat)) = some (SV.a (7 : Nat)) ∧
  some (SV.a (6 : Nat)) = some (SV.a (6 : Nat)) ∧ some (SV.c (Value.int IntKind.u64 (IntKind.u64.wrap (↑h.dups.length : Int)))) = some (SV.c (Value.int IntKind.u64 (IntKind.u64.wrap (↑h.dups.length : Int)))) ∧
  some (SV.c (Value.int IntKind.i64 (↑h.dups.length : Int))) = some (SV.c (Value.int IntKind.i64 (↑h.dups.length : Int))) ∧ some (SV.a (1 : Nat)) = some (SV.a (1 : Nat)) ∧
  some (SV.p (2 : Nat) (3 : Nat)) = some (SV.p (2 : Nat) (3 : Nat)) ∧ some (SV.c (Value.int IntKind.u64 (IntKind.u64.wrap (↑h.gaps.length : Int)))) = some (SV.c (Value.int IntKind.u64 (IntKind.u64.wrap (↑h.gaps.length : Int)))) ∧
  some (SV.c (Value.int IntKind.i64 (↑h.gaps.length : Int))) = some (SV.c (Value.int IntKind.i64 (↑h.gaps.length : Int))) ∧ some (SV.a (0 : Nat)) = some (SV.a (0 : Nat)) ∧
  some (SV.p (2 : Nat) (2 : Nat)) = some (SV.p (2 : Nat) (2 : Nat)) ∧ some (SV.a (5 : Nat)) = some (SV.a (5 : Nat)) ∧ some (SV.a (5 : Nat)) = some (SV.a (5 : Nat)) ∧
  some (SV.a (4 : Nat)) = some (SV.a (4 : Nat)) ∧ some (SV.c (Value.int IntKind.u64 (IntKind.u64.wrap h.win))) = some (SV.c (Value.int IntKind.u64 (IntKind.u64.wrap h.win))) ∧
  some (SV.c (Value.int IntKind.u32 h.win)) = some (SV.c (Value.int IntKind.u32 h.win)) ∧ some (SV.p (2 : Nat) (1 : Nat)) = some (SV.p (2 : Nat) (1 : Nat)) ∧
  some (SV.c (Value.int IntKind.u64 (IntKind.u64.wrap h.cum))) = some (SV.c (Value.int IntKind.u64 (IntKind.u64.wrap h.cum))) ∧ some (SV.c (Value.int IntKind.u32 h.cum)) = some (SV.c (Value.int IntKind.u32 h.cum)) ∧
  some (SV.p (2 : Nat) (0 : Nat)) = some (SV.p (2 : Nat) (0 : Nat)) ∧ some (SV.c (Value.bool (decide ((64 : Int) < (↑h.gaps.length : Int)) || decide ((64 : Int) < (↑h.dups.length : Int))))) = some (SV.c (Value.bool (decide ((64 : Int) < (↑h.gaps.length : Int)) || decide ((64 : Int) < (↑h.dups.length : Int))))) ∧
  some (SV.c (Value.bool (decide ((64 : Int) < (↑h.gaps.length : Int)) || decide ((64 : Int) < (↑h.dups.length : Int))))) = some (SV.c (Value.bool (decide ((64 : Int) < (↑h.gaps.length : Int)) || decide ((64 : Int) < (↑h.dups.length : Int))))) ∧
  some (SV.w [!decide ((64 : Int) < (↑h.gaps.length : Int))] (SV.c (Value.bool (decide ((64 : Int) < (↑h.dups.length : Int)))))) = some (SV.w [!decide ((64 : Int) < (↑h.gaps.length : Int))] (SV.c (Value.bool (decide ((64 : Int) < (↑h.dups.length : Int)))))) ∧
  some (SV.w [!decide ((64 : Int) < (↑h.gaps.length : Int))] (SV.c (Value.int IntKind.i64 (↑h.dups.length : Int)))) = some (SV.w [!decide ((64 : Int) < (↑h.gaps.length : Int))] (SV.c (Value.int IntKind.i64 (↑h.dups.length : Int)))) ∧
  some (SV.w [!decide ((64 : Int) < (↑h.gaps.length : Int))] (SV.a (1 : Nat))) = some (SV.w [!decide ((64 : Int) < (↑h.gaps.length : Int))] (SV.a (1 : Nat))) ∧
  some (SV.w [!decide ((64 : Int) < (↑h.gaps.length : Int))] (SV.p (2 : Nat) (3 : Nat))) = some (SV.w [!decide ((64 : Int) < (↑h.gaps.length : Int))] (SV.p (2 : Nat) (3 : Nat))) ∧
  some (SV.c (Value.bool (decide ((64 : Int) < (↑h.gaps.length : Int))))) = some (SV.c (Value.bool (decide ((64 : Int) < (↑h.gaps.length : Int))))) ∧ some (SV.c (Value.bool (decide ((64 : Int) < (↑h.gaps.length : Int))))) = some (SV.c (Value.bool (decide ((64 : Int) < (↑h.gaps.length : Int))))) ∧
  some (SV.c (Value.int IntKind.i64 (↑h.gaps.length : Int))) = some (SV.c (Value.int IntKind.i64 (↑h.gaps.length : Int))) ∧ some (SV.a (0 : Nat)) = some (SV.a (0 : Nat)) ∧
  some (SV.p (2 : Nat) (2 : Nat)) = some (SV.p (2 : Nat) (2 : Nat)) ∧ some (SV.c (Value.bool !apartF (gapsOf (D.recs (2 : Nat) h.gaps.length (gapCell h.gaps))))) = some (SV.c (Value.bool !apartF (gapsOf (D.recs (2 : Nat) h.gaps.length (gapCell h.gaps))))) ∧
  some (SV.c (Value.bool !apartF (gapsOf (D.recs (2 : Nat) h.gaps.length (gapCell h.gaps))))) = some (SV.c (Value.bool !apartF (gapsOf (D.recs (2 : Nat) h.gaps.length (gapCell h.gaps))))) ∧
  some (SV.c (Value.bool (apartF (gapsOf (D.recs (2 : Nat) h.gaps.length (gapCell h.gaps)))))) = some (SV.c (Value.bool (apartF (gapsOf (D.recs (2 : Nat) h.gaps.length (gapCell h.gaps)))))) ∧
  some (SV.a (0 : Nat)) = some (SV.a (0 : Nat)) ∧ some (SV.p (2 : Nat) (2 : Nat)) = some (SV.p (2 : Nat) (2 : Nat)) ∧ some (SV.c (Value.int IntKind.i64 (0 : Int))) = some (SV.c (Value.int IntKind.i64 (0 : Int))) ∧
  some (SV.p (3 : Nat) (0 : Nat)) = some (SV.p (3 : Nat) (0 : Nat)) ∧ some (SV.p (2 : Nat) (0 : Nat)) = some (SV.p (2 : Nat) (0 : Nat)) ∧ some (SV.agg [SV.c (Value.int IntKind.u32 h.cum), SV.c (Value.int IntKind.u32 h.win), SV.a (0 : Nat), SV.a (1 : Nat)]) = some (SV.agg [SV.c (Value.int IntKind.u32 h.cum), SV.c (Value.int IntKind.u32 h.win), SV.a (0 : Nat), SV.a (1 : Nat)]) ∧
  True) ∧ some R.dead = some R.dead ∧ some (R.blk (63 : Nat) [SV.c (Value.int IntKind.u32 h.cum), SV.c (Value.int IntKind.u32 h.win), SV.a (0 : Nat), SV.a (1 : Nat)]) = some (R.blk (63 : Nat) [SV.c (Value.int IntKind.u32 h.cum), SV.c (Value.int IntKind.u32 h.win), SV.a (0 : Nat), SV.a (1 : Nat)]) ∧
  some (R.own (5 : Nat) (D.ints IntKind.u8 ([] ++ be (IntKind.u64.wrap h.cum) (Int.toNat (4 : Int)) ++ be (IntKind.u64.wrap h.win) (Int.toNat (4 : Int)) ++ be (IntKind.u64.wrap (↑h.gaps.length : Int)) (Int.toNat (2 : Int))))) = some (R.own (5 : Nat) (D.ints IntKind.u8 ([] ++ be (IntKind.u64.wrap h.cum) (Int.toNat (4 : Int)) ++ be (IntKind.u64.wrap h.win) (Int.toNat (4 : Int)) ++ be (IntKind.u64.wrap (↑h.gaps.length : Int)) (Int.toNat (2 : Int))))) ∧
  some (R.own (5 : Nat) (D.ints IntKind.u8 ([] ++ be (IntKind.u64.wrap h.cum) (Int.toNat (4 : Int)) ++ be (IntKind.u64.wrap h.win) (Int.toNat (4 : Int))))) = some (R.own (5 : Nat) (D.ints IntKind.u8 ([] ++ be (IntKind.u64.wrap h.cum) (Int.toNat (4 : Int)) ++ be (IntKind.u64.wrap h.win) (Int.toNat (4 : Int))))) ∧
  some (R.own (5 : Nat) (D.ints IntKind.u8 ([] ++ be (IntKind.u64.wrap h.cum) (Int.toNat (4 : Int))))) = some (R.own (5 : Nat) (D.ints IntKind.u8 ([] ++ be (IntKind.u64.wrap h.cum) (Int.toNat (4 : Int))))) ∧
  some (R.blk (45 : Nat) [SV.c (Value.int IntKind.u8 (0 : Int)), SV.c (Value.int IntKind.u8 (0 : Int)), SV.nil]) = some (R.blk (45 : Nat) [SV.c (Value.int IntKind.u8 (0 : Int)), SV.c (Value.int IntKind.u8 (0 : Int)), SV.nil]) ∧
  some (R.ro (D.ints IntKind.u32 h.dups)) = some (R.ro (D.ints IntKind.u32 h.dups)) ∧ some (R.ro (D.recs (2 : Nat) h.gaps.length (gapCell h.gaps))) = some (R.ro (D.recs (2 : Nat) h.gaps.length (gapCell h.gaps))) ∧
  True) ((3 : Int) = (fromHea (HeaR.mk h.cum h.win (gapsOf (D.recs (2 : Nat) h.gaps.length (gapCell h.gaps))) h.dups)).fst.t ∧ (0 : Int) = (fromHea (HeaR.mk h.cum h.win (gapsOf (D.recs (2 : Nat) h.gaps.length (gapCell h.gaps))) h.dups)).fst.f ∧
  heaH h ++ gapsB h.gaps ++ dupsB (List.take g_1 h.dups) = (fromHea (HeaR.mk h.cum h.win (gapsOf (D.recs (2 : Nat) h.gaps.length (gapCell h.gaps))) h.dups)).fst.v ∧
  (0 : Int) = (fromHea (HeaR.mk h.cum h.win (gapsOf (D.recs (2 : Nat) h.gaps.length (gapCell h.gaps))) h.dups)).snd ∧ (!false && true && true) = true))) ∧
  True) ∧ True) ∧ True) ∧ True)) := by
  simp only [↓sw_iff, ↓Bool.and_eq_true, ↓decide_eq_true_eq, ↓decide_eq_false_iff_not, ↓Bool.not_eq_true', ↓Bool.not_eq_false', true_and, and_true, implies_true, Bool.or_false, Nat.ble, Nat.beq, Int.toNat_natCast, List.nil_append, toNat2, toNat4, gapsOf_gaps, hea_eta]
  intro h ok
  obtain ⟨k1, k2, ⟨k3, k4⟩, ⟨k5, k6⟩⟩ := ok
  rw [u64_id (n := h.cum) k1.1 k1.2 (by decide), u64_id (n := h.win) k2.1 k2.2 (by decide), u64_id (n := (h.gaps.length : Int)) (m := 1073741824) (by omega) (by omega) (by decide), u64_id (n := (h.dups.length : Int)) (m := 1073741824) (by omega) (by omega) (by decide)]
  simp only [Bool.or_eq_true, Bool.or_eq_false_iff, decide_eq_true_eq, decide_eq_false_iff_not]
  refine ⟨⟨_, rfl, k3, k4⟩, fun e => leaf0 (fromHea_e1 e), fun e => ⟨fun e' => leaf0 (fromHea_e2 e (by omega)), fun e' => ?_⟩⟩
  rw [fromHea_e3 e (by omega)]
  refine ⟨⟨_, _, 4, rfl, by unfold sm; simp [], by decide, by decide⟩, ⟨_, _, 4, rfl, by unfold sm; simp [be_len], by decide, by decide⟩, ⟨_, _, 2, rfl, by unfold sm; simp [be_len], by decide, by decide⟩, ⟨_, _, 2, rfl, by unfold sm; simp [be_len], by decide, by decide⟩, 0, Nat.zero_le _, rfl, by simp [heaH, gapsB], ?_⟩
  intro i hi
  refine ⟨fun hlt => ?_, fun hge => ?_⟩
  · have hi' : i < h.gaps.length := by omega
    obtain ⟨⟨m1, m2⟩, ⟨m3, m4⟩⟩ := k4 _ (getD_mem (d := ((0 : Int), (0 : Int))) hi')
    rw [u64_id (n := (h.gaps.getD i (0, 0)).1) m1 m2 (by decide), u64_id (n := (h.gaps.getD i (0, 0)).2) m3 m4 (by decide)]
    have hl : (heaH h ++ gapsB (h.gaps.take i)).length ≤ 1000 := by rw [List.length_append, heaH_len, gapsB_len, List.length_take]; omega
    refine ⟨⟨by omega, by omega⟩, ⟨_, _, 2, rfl, by unfold sm; omega, by decide, by decide⟩, ⟨_, _, 2, rfl, by unfold sm; rw [List.length_append, be_len]; omega, by decide, by decide⟩, i + 1, by omega, by omega, by rw [wrap_i64_id (by omega) (by omega)]; rfl, ?_⟩
    rw [take_snoc (0, 0) hi', gapsB_append, gapsB_one]; simp [gapB]
  · have ht : h.gaps.take i = h.gaps := List.take_of_length_le (by omega)
    rw [ht]
    refine ⟨0, Nat.zero_le _, rfl, by simp [dupsB], ?_⟩
    intro j hj
    refine ⟨fun hlt => ?_, fun hge => ?_⟩
    · have hj' : j < h.dups.length := by omega
      obtain ⟨m1, m2⟩ := k6 _ (getD_mem (d := (0 : Int)) hj')
      rw [u64_id (n := h.dups.getD j 0) m1 m2 (by decide)]
      have hl : (heaH h ++ gapsB h.gaps ++ dupsB (h.dups.take j)).length ≤ 1000 := by rw [List.length_append, List.length_append, heaH_len, gapsB_len, dupsB_len, List.length_take]; omega
      refine ⟨⟨by omega, by omega⟩, ⟨_, _, 4, rfl, by unfold sm; omega, by decide, by decide⟩, j + 1, by omega, by omega, by rw [wrap_i64_id (by omega) (by omega)]; rfl, ?_⟩
      rw [take_snoc 0 hj', dupsB_append, dupsB_one]; simp
    · rw [List.take_of_length_le (by omega)]
      exact ⟨rfl, rfl, rfl, rfl⟩
set_option maxRecDepth 100000 in
theorem ok34 : FnIs Try.prog 34 fromHeaC := by
  refine fnIs (C := (ctrs c24)) (by kernel_rfl) c24_ok Try.func34 (code := code34) (by kernel_rfl) (by kernel_rfl) ?_
  rintro a ⟨h, rfl, ok⟩
  exact ⟨anns [(8, gapsAnn 49 4 h), (13, dupsAnn 66 4 h)], kcast (vc34 h ok) (by kernel_rfl)⟩

noncomputable def code35 : Code := match Try.f35.body with | some c => c | none => .skip
set_option maxHeartbeats 4000000 in
theorem vc35 : ∀ (h : HeaR), okHea h → (∃ (l : List (Int × Int)), [O.d (D.recs (2 : Nat) h.gaps.length (gapCell h.gaps))] = [O.d (D.recs (2 : Nat) l.length (gapCell l))] ∧
  okGs l) ∧ sw (!apartF (gapsOf (D.recs (2 : Nat) h.gaps.length (gapCell h.gaps)))) ((0 : Int) = (fromHea (HeaR.mk h.cum h.win (gapsOf (D.recs (2 : Nat) h.gaps.length (gapCell h.gaps))) h.dups)).fst.t ∧
  (0 : Int) = (fromHea (HeaR.mk h.cum h.win (gapsOf (D.recs (2 : Nat) h.gaps.length (gapCell h.gaps))) h.dups)).fst.f ∧ (fromHea (HeaR.mk h.cum h.win (gapsOf (D.recs (2 : Nat) h.gaps.length (gapCell h.gaps))) h.dups)).fst.v = [] ∧
  (2 : Int) = (fromHea (HeaR.mk h.cum h.win (gapsOf (D.recs (2 : Nat) h.gaps.length (gapCell h.gaps))) h.dups)).snd ∧ (true && true) = true) (True ∧ sw (!decide ((64 : Int) < (↑h.gaps.length : Int))) (SV.p (2 : Nat) (3 : Nat) = SV.p (2 : Nat) (3 : Nat)) True ∧
  sw (!decide ((64 : Int) < (↑h.gaps.length : Int))) ([!decide ((64 : Int) < (↑h.gaps.length : Int))] = [!decide ((64 : Int) < (↑h.gaps.length : Int))] ∧
  SV.a (1 : Nat) = SV.a (1 : Nat)) True ∧ sw (!decide ((64 : Int) < (↑h.gaps.length : Int))) ([!decide ((64 : Int) < (↑h.gaps.length : Int))] = [!decide ((64 : Int) < (↑h.gaps.length : Int))] ∧
  SV.c (Value.int IntKind.i64 (↑h.dups.length : Int)) = SV.c (Value.int IntKind.i64 (↑h.dups.length : Int))) True ∧ sw (!decide ((64 : Int) < (↑h.gaps.length : Int))) ([!decide ((64 : Int) < (↑h.gaps.length : Int))] = [!decide ((64 : Int) < (↑h.gaps.length : Int))] ∧
  True ∧ SV.c (Value.bool (decide ((64 : Int) < (↑h.dups.length : Int)))) = SV.c (Value.bool (decide ((64 : Int) < (↑h.dups.length : Int))))) True ∧ [!decide ((64 : Int) < (↑h.gaps.length : Int))] = [!decide ((64 : Int) < (↑h.gaps.length : Int))] ∧
  sw (decide ((64 : Int) < (↑h.gaps.length : Int)) || decide ((64 : Int) < (↑h.dups.length : Int))) ((0 : Int) = (fromHea (HeaR.mk h.cum h.win (gapsOf (D.recs (2 : Nat) h.gaps.length (gapCell h.gaps))) h.dups)).fst.t ∧
  (0 : Int) = (fromHea (HeaR.mk h.cum h.win (gapsOf (D.recs (2 : Nat) h.gaps.length (gapCell h.gaps))) h.dups)).fst.f ∧ (fromHea (HeaR.mk h.cum h.win (gapsOf (D.recs (2 : Nat) h.gaps.length (gapCell h.gaps))) h.dups)).fst.v = [] ∧
  (4 : Int) = (fromHea (HeaR.mk h.cum h.win (gapsOf (D.recs (2 : Nat) h.gaps.length (gapCell h.gaps))) h.dups)).snd ∧ (true && true) = true) ((∃ (b : List Int), ∃ (n : Int), ∃ (k : Nat), [O.d (D.ints IntKind.u8 []), O.d (D.v (Value.int IntKind.u64 (IntKind.u64.wrap h.cum))), O.d (D.v (Value.int IntKind.i64 (4 : Int)))] = [O.d (D.ints IntKind.u8 b), O.d (D.v (Value.int IntKind.u64 n)), O.d (D.v (Value.int IntKind.i64 (↑k : Int)))] ∧
  sm b.length ∧ (1 : Nat) ≤ k ∧ k ≤ (8 : Nat)) ∧ (∃ (b : List Int), ∃ (n : Int), ∃ (k : Nat), [O.d (D.ints IntKind.u8 ([] ++ be (IntKind.u64.wrap h.cum) (Int.toNat (4 : Int)))), O.d (D.v (Value.int IntKind.u64 (IntKind.u64.wrap h.win))), O.d (D.v (Value.int IntKind.i64 (4 : Int)))] = [O.d (D.ints IntKind.u8 b), O.d (D.v (Value.int IntKind.u64 n)), O.d (D.v (Value.int IntKind.i64 (↑k : Int)))] ∧
  sm b.length ∧ (1 : Nat) ≤ k ∧ k ≤ (8 : Nat)) ∧ (∃ (b : List Int), ∃ (n : Int), ∃ (k : Nat), [O.d (D.ints IntKind.u8 ([] ++ be (IntKind.u64.wrap h.cum) (Int.toNat (4 : Int)) ++ be (IntKind.u64.wrap h.win) (Int.toNat (4 : Int)))), O.d (D.v (Value.int IntKind.u64 (IntKind.u64.wrap (↑h.gaps.length : Int)))), O.d (D.v (Value.int IntKind.i64 (2 : Int)))] = [O.d (D.ints IntKind.u8 b), O.d (D.v (Value.int IntKind.u64 n)), O.d (D.v (Value.int IntKind.i64 (↑k : Int)))] ∧
  sm b.length ∧ (1 : Nat) ≤ k ∧ k ≤ (8 : Nat)) ∧ (∃ (b : List Int), ∃ (n : Int), ∃ (k : Nat), [O.d (D.ints IntKind.u8 ([] ++ be (IntKind.u64.wrap h.cum) (Int.toNat (4 : Int)) ++ be (IntKind.u64.wrap h.win) (Int.toNat (4 : Int)) ++ be (IntKind.u64.wrap (↑h.gaps.length : Int)) (Int.toNat (2 : Int)))), O.d (D.v (Value.int IntKind.u64 (IntKind.u64.wrap (↑h.dups.length : Int)))), O.d (D.v (Value.int IntKind.i64 (2 : Int)))] = [O.d (D.ints IntKind.u8 b), O.d (D.v (Value.int IntKind.u64 n)), O.d (D.v (Value.int IntKind.i64 (↑k : Int)))] ∧
  sm b.length ∧ (1 : Nat) ≤ k ∧ k ≤ (8 : Nat)) ∧ ∃ (g0 : Nat), g0 ≤ h.gaps.length ∧ (0 : Int) = (↑g0 : Int) ∧ [] ++ be (IntKind.u64.wrap h.cum) (Int.toNat (4 : Int)) ++ be (IntKind.u64.wrap h.win) (Int.toNat (4 : Int)) ++ be (IntKind.u64.wrap (↑h.gaps.length : Int)) (Int.toNat (2 : Int)) ++ be (IntKind.u64.wrap (↑h.dups.length : Int)) (Int.toNat (2 : Int)) = heaH h ++ gapsB (List.take g0 h.gaps) ∧
  (!false && true && true) = true ∧ ∀ (g : Nat), g ≤ h.gaps.length → True ∧ sw (decide ((↑g : Int) < (↑h.gaps.length : Int))) (((0 : Int) ≤ (↑g : Int) ∧ (↑g : Int) < (↑h.gaps.length : Int)) ∧
  (∃ (b : List Int), ∃ (n : Int), ∃ (k : Nat), [O.d (D.ints IntKind.u8 (heaH h ++ gapsB (List.take g h.gaps))), O.d (D.v (Value.int IntKind.u64 (IntKind.u64.wrap (h.gaps.getD (↑g : Int).toNat ((0 : Int), (0 : Int))).fst))), O.d (D.v (Value.int IntKind.i64 (2 : Int)))] = [O.d (D.ints IntKind.u8 b), O.d (D.v (Value.int IntKind.u64 n)), O.d (D.v (Value.int IntKind.i64 (↑k : Int)))] ∧
  sm b.length ∧ (1 : Nat) ≤ k ∧ k ≤ (8 : Nat)) ∧ ((0 : Int) ≤ (↑g : Int) ∧ (↑g : Int) < (↑h.gaps.length : Int)) ∧ (∃ (b : List Int), ∃ (n : Int), ∃ (k : Nat), [O.d (D.ints IntKind.u8 (heaH h ++ gapsB (List.take g h.gaps) ++ be (IntKind.u64.wrap (h.gaps.getD (↑g : Int).toNat ((0 : Int), (0 : Int))).fst) (Int.toNat (2 : Int)))), O.d (D.v (Value.int IntKind.u64 (IntKind.u64.wrap (h.gaps.getD (↑g : Int).toNat ((0 : Int), (0 : Int))).snd))), O.d (D.v (Value.int IntKind.i64 (2 : Int)))] = [O.d (D.ints IntKind.u8 b), O.d (D.v (Value.int IntKind.u64 n)), O.d (D.v (Value.int IntKind.i64 (↑k : Int)))] ∧
  sm b.length ∧ (1 : Nat) ≤ k ∧ k ≤ (8 : Nat)) ∧ True ∧ ∃ (g' : Nat), g' ≤ h.gaps.length ∧ h.gaps.length - g' < h.gaps.length - g ∧ (IntKind.i64.wrap ((↑g : Int) + (1 : Int)) = (↑g' : Int) ∧
  heaH h ++ gapsB (List.take g h.gaps) ++ be (IntKind.u64.wrap (h.gaps.getD (↑g : Int).toNat ((0 : Int), (0 : Int))).fst) (Int.toNat (2 : Int)) ++ be (IntKind.u64.wrap (h.gaps.getD (↑g : Int).toNat ((0 : Int), (0 : Int))).snd) (Int.toNat (2 : Int)) = heaH h ++ gapsB (List.take g' h.gaps) ∧
  (!false && true && true && ((Nat.ble (8 : Nat) (10 : Nat) || (Nat.beq (7 : Nat) (10 : Nat) || false)) && true)) = true) ∧ (some (SV.a (7 : Nat)) = some (SV.a (7 : Nat)) ∧
  some (SV.c (Value.int IntKind.u64 (IntKind.u64.wrap (↑h.dups.length : Int)))) = some (SV.c (Value.int IntKind.u64 (IntKind.u64.wrap (↑h.dups.length : Int)))) ∧
  some (SV.c (Value.int IntKind.i64 (↑h.dups.length : Int))) = some (SV.c (Value.int IntKind.i64 (↑h.dups.length : Int))) ∧ some (SV.a (1 : Nat)) = some (SV.a (1 : Nat)) ∧
  some (SV.p (2 : Nat) (3 : Nat)) = some (SV.p (2 : Nat) (3 : Nat)) ∧ some (SV.a (6 : Nat)) = some (SV.a (6 : Nat)) ∧ some (SV.a (6 : Nat)) = some (SV.a (6 : Nat)) ∧
  some (SV.c (Value.int IntKind.u64 (IntKind.u64.wrap (↑h.gaps.length : Int)))) = some (SV.c (Value.int IntKind.u64 (IntKind.u64.wrap (↑h.gaps.length : Int)))) ∧
  some (SV.c (Value.int IntKind.i64 (↑h.gaps.length : Int))) = some (SV.c (Value.int IntKind.i64 (↑h.gaps.length : Int))) ∧ some (SV.a (0 : Nat)) = some (SV.a (0 : Nat)) ∧
  some (SV.p (2 : Nat) (2 : Nat)) = some (SV.p (2 : Nat) (2 : Nat)) ∧ some (SV.a (5 : Nat)) = some (SV.a (5 : Nat)) ∧ some (SV.a (5 : Nat)) = some (SV.a (5 : Nat)) ∧
  some (SV.c (Value.int IntKind.u64 (IntKind.u64.wrap h.win))) = some (SV.c (Value.int IntKind.u64 (IntKind.u64.wrap h.win))) ∧ some (SV.c (Value.int IntKind.u32 h.win)) = some (SV.c (Value.int IntKind.u32 h.win)) ∧
  some (SV.p (2 : Nat) (1 : Nat)) = some (SV.p (2 : Nat) (1 : Nat)) ∧ some (SV.a (4 : Nat)) = some (SV.a (4 : Nat)) ∧ some (SV.a (4 : Nat)) = some (SV.a (4 : Nat)) ∧
  some (SV.c (Value.int IntKind.u64 (IntKind.u64.wrap h.cum))) = some (SV.c (Value.int IntKind.u64 (IntKind.u64.wrap h.cum))) ∧ some (SV.c (Value.int IntKind.u32 h.cum)) = some (SV.c (Value.int IntKind.u32 h.cum)) ∧
  some (SV.p (2 : Nat) (0 : Nat)) = some (SV.p (2 : Nat) (0 : Nat)) ∧ some (SV.c (Value.bool (decide ((64 : Int) < (↑h.gaps.length : Int)) || decide ((64 : Int) < (↑h.dups.length : Int))))) = some (SV.c (Value.bool (decide ((64 : Int) < (↑h.gaps.length : Int)) || decide ((64 : Int) < (↑h.dups.length : Int))))) ∧
  some (SV.w [!decide ((64 : Int) < (↑h.gaps.length : Int))] (SV.c (Value.bool (decide ((64 : Int) < (↑h.dups.length : Int)))))) = some (SV.w [!decide ((64 : Int) < (↑h.gaps.length : Int))] (SV.c (Value.bool (decide ((64 : Int) < (↑h.dups.length : Int)))))) ∧
  some (SV.w [!decide ((64 : Int) < (↑h.gaps.length : Int))] (SV.c (Value.int IntKind.i64 (↑h.dups.length : Int)))) = some (SV.w [!decide ((64 : Int) < (↑h.gaps.length : Int))] (SV.c (Value.int IntKind.i64 (↑h.dups.length : Int)))) ∧
  some (SV.w [!decide ((64 : Int) < (↑h.gaps.length : Int))] (SV.a (1 : Nat))) = some (SV.w [!decide ((64 : Int) < (↑h.gaps.length : Int))] (SV.a (1 : Nat))) ∧
  some (SV.w [!decide ((64 : Int) < (↑h.gaps.length : Int))] (SV.p (2 : Nat) (3 : Nat))) = some (SV.w [!decide ((64 : Int) < (↑h.gaps.length : Int))] (SV.p (2 : Nat) (3 : Nat))) ∧
  some (SV.c (Value.bool (decide ((64 : Int) < (↑h.gaps.length : Int))))) = some (SV.c (Value.bool (decide ((64 : Int) < (↑h.gaps.length : Int))))) ∧ some (SV.c (Value.bool (decide ((64 : Int) < (↑h.gaps.length : Int))))) = some (SV.c (Value.bool (decide ((64 : Int) < (↑h.gaps.length : Int))))) ∧
  some (SV.c (Value.int IntKind.i64 (↑h.gaps.length : Int))) = some (SV.c (Value.int IntKind.i64 (↑h.gaps.length : Int))) ∧ some (SV.a (0 : Nat)) = some (SV.a (0 : Nat)) ∧
  some (SV.p (2 : Nat) (2 : Nat)) = some (SV.p (2 : Nat) (2 : Nat)) ∧ some (SV.c (Value.bool !apartF (gapsOf (D.recs (2 : Nat) h.gaps.length (gapCell h.gaps))))) = some (SV.c (Value.bool !apartF (gapsOf (D.recs (2 : Nat) h.gaps.length (gapCell h.gaps))))) ∧
  some (SV.c (Value.bool (apartF (gapsOf (D.recs (2 : Nat) h.gaps.length (gapCell h.gaps)))))) = some (SV.c (Value.bool (apartF (gapsOf (D.recs (2 : Nat) h.gaps.length (gapCell h.gaps)))))) ∧
  some (SV.a (0 : Nat)) = some (SV.a (0 : Nat)) ∧ some (SV.p (2 : Nat) (2 : Nat)) = some (SV.p (2 : Nat) (2 : Nat)) ∧ some (SV.c (Value.int IntKind.i64 (0 : Int))) = some (SV.c (Value.int IntKind.i64 (0 : Int))) ∧
  some (SV.p (3 : Nat) (0 : Nat)) = some (SV.p (3 : Nat) (0 : Nat)) ∧ some (SV.p (2 : Nat) (0 : Nat)) = some (SV.p (2 : Nat) (0 : Nat)) ∧ some (SV.agg [SV.c (Value.int IntKind.u32 h.cum), SV.c (Value.int IntKind.u32 h.win), SV.a (0 : Nat), SV.a (1 : Nat)]) = some (SV.agg [SV.c (Value.int IntKind.u32 h.cum), SV.c (Value.int IntKind.u32 h.win), SV.a (0 : Nat), SV.a (1 : Nat)]) ∧
  True) ∧ some (R.own (5 : Nat) (D.ints IntKind.u8 ([] ++ be (IntKind.u64.wrap h.cum) (Int.toNat (4 : Int)) ++ be (IntKind.u64.wrap h.win) (Int.toNat (4 : Int)) ++ be (IntKind.u64.wrap (↑h.gaps.length : Int)) (Int.toNat (2 : Int))))) = some (R.own (5 : Nat) (D.ints IntKind.u8 ([] ++ be (IntKind.u64.wrap h.cum) (Int.toNat (4 : Int)) ++ be (IntKind.u64.wrap h.win) (Int.toNat (4 : Int)) ++ be (IntKind.u64.wrap (↑h.gaps.length : Int)) (Int.toNat (2 : Int))))) ∧
  some (R.own (5 : Nat) (D.ints IntKind.u8 ([] ++ be (IntKind.u64.wrap h.cum) (Int.toNat (4 : Int)) ++ be (IntKind.u64.wrap h.win) (Int.toNat (4 : Int))))) = some (R.own (5 : Nat) (D.ints IntKind.u8 ([] ++ be (IntKind.u64.wrap h.cum) (Int.toNat (4 : Int)) ++ be (IntKind.u64.wrap h.win) (Int.toNat (4 : Int))))) ∧
  some (R.own (5 : Nat) (D.ints IntKind.u8 ([] ++ be (IntKind.u64.wrap h.cum) (Int.toNat (4 : Int))))) = some (R.own (5 : Nat) (D.ints IntKind.u8 ([] ++ be (IntKind.u64.wrap h.cum) (Int.toNat (4 : Int))))) ∧
  some (R.blk (45 : Nat) [SV.c (Value.int IntKind.u8 (0 : Int)), SV.c (Value.int IntKind.u8 (0 : Int)), SV.nil]) = some (R.blk (45 : Nat) [SV.c (Value.int IntKind.u8 (0 : Int)), SV.c (Value.int IntKind.u8 (0 : Int)), SV.nil]) ∧
  some (R.blk (63 : Nat) [SV.c (Value.int IntKind.u32 h.cum), SV.c (Value.int IntKind.u32 h.win), SV.a (0 : Nat), SV.a (1 : Nat)]) = some (R.blk (63 : Nat) [SV.c (Value.int IntKind.u32 h.cum), SV.c (Value.int IntKind.u32 h.win), SV.a (0 : Nat), SV.a (1 : Nat)]) ∧
  some (R.ro (D.ints IntKind.u32 h.dups)) = some (R.ro (D.ints IntKind.u32 h.dups)) ∧ some (R.ro (D.recs (2 : Nat) h.gaps.length (gapCell h.gaps))) = some (R.ro (D.recs (2 : Nat) h.gaps.length (gapCell h.gaps))) ∧
  True) (∃ (g0_1 : Nat), g0_1 ≤ h.dups.length ∧ (0 : Int) = (↑g0_1 : Int) ∧ heaH h ++ gapsB (List.take g h.gaps) = heaH h ++ gapsB h.gaps ++ dupsB (List.take g0_1 h.dups) ∧
  (!false && true && true) = true ∧ ∀ (g_1 : Nat), g_1 ≤ h.dups.length → True ∧ sw (decide ((↑g_1 : Int) < (↑h.dups.length : Int))) (((0 : Int) ≤ (↑g_1 : Int) ∧
  (↑g_1 : Int) < (↑h.dups.length : Int)) ∧ (∃ (b : List Int), ∃ (n : Int), ∃ (k : Nat), [O.d (D.ints IntKind.u8 (heaH h ++ gapsB h.gaps ++ dupsB (List.take g_1 h.dups))), O.d (D.v (Value.int IntKind.u64 (IntKind.u64.wrap (h.dups.getD (↑g_1 : Int).toNat (0 : Int))))), O.d (D.v (Value.int IntKind.i64 (4 : Int)))] = [O.d (D.ints IntKind.u8 b), O.d (D.v (Value.int IntKind.u64 n)), O.d (D.v (Value.int IntKind.i64 (↑k : Int)))] ∧
  sm b.length ∧ (1 : Nat) ≤ k ∧ k ≤ (8 : Nat)) ∧ True ∧ ∃ (g' : Nat), g' ≤ h.dups.length ∧ h.dups.length - g' < h.dups.length - g_1 ∧ (IntKind.i64.wrap ((↑g_1 : Int) + (1 : Int)) = (↑g' : Int) ∧
  heaH h ++ gapsB h.gaps ++ dupsB (List.take g_1 h.dups) ++ be (IntKind.u64.wrap (h.dups.getD (↑g_1 : Int).toNat (0 : Int))) (Int.toNat (4 : Int)) = heaH h ++ gapsB h.gaps ++ dupsB (List.take g' h.dups) ∧
  (!false && true && true && ((Nat.ble (9 : Nat) (10 : Nat) || (Nat.beq (8 : Nat) (10 : Nat) || false)) && true)) = true) ∧ (some (SV.c (Value.bool (decide ((↑g : Int) < (↑h.gaps.length : Int))))) = some (SV.c (Value.bool (decide ((↑g : Int) < (↑h.gaps.length : Int))))) ∧
  some (SV.c (Value.int IntKind.i64 (↑h.gaps.length : Int))) = some (SV.c (Value.int IntKind.i64 (↑h.gaps.length : Int))) ∧ some (SV.a (0 : Nat)) = some (SV.a (0 : Nat)) ∧
  some (SV.p (2 : Nat) (2 : Nat)) = some (SV.p (2 : Nat) (2 : Nat)) ∧ some (SV.c (Value.int IntKind.i64 (↑g : Int))) = some (SV.c (Value.int IntKind.i64 (↑g : Int))) ∧
  some (SV.c (Value.int IntKind.i64 (↑g : Int))) = some (SV.c (Value.int IntKind.i64 (↑g : Int))) ∧ some (SV.a (7 : Nat)) = some (SV.a (7 : Nat)) ∧ some (SV.c (Value.int IntKind.u64 (IntKind.u64.wrap (↑h.dups.length : Int)))) = some (SV.c (Value.int IntKind.u64 (IntKind.u64.wrap (↑h.dups.length : Int)))) ∧
  some (SV.c (Value.int IntKind.i64 (↑h.dups.length : Int))) = some (SV.c (Value.int IntKind.i64 (↑h.dups.length : Int))) ∧ some (SV.a (1 : Nat)) = some (SV.a (1 : Nat)) ∧
  some (SV.p (2 : Nat) (3 : Nat)) = some (SV.p (2 : Nat) (3 : Nat)) ∧ some (SV.a (6 : Nat)) = some (SV.a (6 : Nat)) ∧ some (SV.a (6 : Nat)) = some (SV.a (6 : Nat)) ∧
  some (SV.c (Value.int IntKind.u64 (IntKind.u64.wrap (↑h.gaps.length : Int)))) = some (SV.c (Value.int IntKind.u64 (IntKind.u64.wrap (↑h.gaps.length : Int)))) ∧
  some (SV.c (Value.int IntKind.i64 (↑h.gaps.length : Int))) = some (SV.c (Value.int IntKind.i64 (↑h.gaps.length : Int))) ∧ some (SV.a (0 : Nat)) = some (SV.a (0 : Nat)) ∧
  some (SV.p (2 : Nat) (2 : Nat)) = some (SV.p (2 : Nat) (2 : Nat)) ∧ some (SV.a (5 : Nat)) = some (SV.a (5 : Nat)) ∧ some (SV.a (5 : Nat)) = some (SV.a (5 : Nat)) ∧
  some (SV.c (Value.int IntKind.u64 (IntKind.u64.wrap h.win))) = some (SV.c (Value.int IntKind.u64 (IntKind.u64.wrap h.win))) ∧ some (SV.c (Value.int IntKind.u32 h.win)) = some (SV.c (Value.int IntKind.u32 h.win)) ∧
  some (SV.p (2 : Nat) (1 : Nat)) = some (SV.p (2 : Nat) (1 : Nat)) ∧ some (SV.a (4 : Nat)) = some (SV.a (4 : Nat)) ∧ some (SV.a (4 : Nat)) = some (SV.a (4 : Nat)) ∧
  some (SV.c (Value.int IntKind.u64 (IntKind.u64.wrap h.cum))) = some (SV.c (Value.int IntKind.u64 (IntKind.u64.wrap h.cum))) ∧ some (SV.c (Value.int IntKind.u32 h.cum)) = some (SV.c (Value.int IntKind.u32 h.cum)) ∧
  some (SV.p (2 : Nat) (0 : Nat)) = some (SV.p (2 : Nat) (0 : Nat)) ∧ some (SV.c (Value.bool (decide ((64 : Int) < (↑h.gaps.length : Int)) || decide ((64 : Int) < (↑h.dups.length : Int))))) = some (SV.c (Value.bool (decide ((64 : Int) < (↑h.gaps.length : Int)) || decide ((64 : Int) < (↑h.dups.length : Int))))) ∧
  some (SV.w [!decide ((64 : Int) < (↑h.gaps.length : Int))] (SV.c (Value.bool (decide ((64 : Int) < (↑h.dups.length : Int)))))) = some (SV.w [!decide ((64 : Int) < (↑h.gaps.length : Int))] (SV.c (Value.bool (decide ((64 : Int) < (↑h.dups.length : Int)))))) ∧
  some (SV.w [!decide ((64 : Int) < (↑h.gaps.length : Int))] (SV.c (Value.int IntKind.i64 (↑h.dups.length : Int)))) = some (SV.w [!decide ((64 : Int) < (↑h.gaps.length : Int))] (SV.c (Value.int IntKind.i64 (↑h.dups.length : Int)))) ∧
  some (SV.w [!decide ((64 : Int) < (↑h.gaps.length : Int))] (SV.a (1 : Nat))) = some (SV.w [!decide ((64 : Int) < (↑h.gaps.length : Int))] (SV.a (1 : Nat))) ∧
  some (SV.w [!decide ((64 : Int) < (↑h.gaps.length : Int))] (SV.p (2 : Nat) (3 : Nat))) = some (SV.w [!decide ((64 : Int) < (↑h.gaps.length : Int))] (SV.p (2 : Nat) (3 : Nat))) ∧
  some (SV.c (Value.bool (decide ((64 : Int) < (↑h.gaps.length : Int))))) = some (SV.c (Value.bool (decide ((64 : Int) < (↑h.gaps.length : Int))))) ∧ some (SV.c (Value.bool (decide ((64 : Int) < (↑h.gaps.length : Int))))) = some (SV.c (Value.bool (decide ((64 : Int) < (↑h.gaps.length : Int))))) ∧
  some (SV.c (Value.int IntKind.i64 (↑h.gaps.length : Int))) = some (SV.c (Value.int IntKind.i64 (↑h.gaps.length : Int))) ∧ some (SV.a (0 : Nat)) = some (SV.a (0 : Nat)) ∧
  some (SV.p (2 : Nat) (2 : Nat)) = some (SV.p (2 : Nat) (2 : Nat)) ∧ some (SV.c (Value.bool !apartF (gapsOf (D.recs (2 : Nat) h.gaps.length (gapCell h.gaps))))) = some (SV.c (Value.bool !apartF (gapsOf (D.recs (2 : Nat) h.gaps.length (gapCell h.gaps))))) ∧
  some (SV.c (Value.bool (apartF (gapsOf (D.recs (2 : Nat) h.gaps.length (gapCell h.gaps)))))) = some (SV.c (Value.bool (apartF (gapsOf (D.recs (2 : Nat) h.gaps.length (gapCell h.gaps)))))) ∧
  some (SV.a (0 : Nat)) = some (SV.a (0 : Nat)) ∧ some (SV.p (2 : Nat) (2 : Nat)) = some (SV.p (2 : Nat) (2 : Nat)) ∧ some (SV.c (Value.int IntKind.i64 (0 : Int))) = some (SV.c (Value.int IntKind.i64 (0 : Int))) ∧
  some (SV.p (3 : Nat) (0 : Nat)) = some (SV.p (3 : Nat) (0 : Nat)) ∧ some (SV.p (2 : Nat) (0 : Nat)) = some (SV.p (2 : Nat) (0 : Nat)) ∧ some (SV.agg [SV.c (Value.int IntKind.u32 h.cum), SV.c (Value.int IntKind.u32 h.win), SV.a (0 : Nat), SV.a (1 : Nat)]) = some (SV.agg [SV.c (Value.int IntKind.u32 h.cum), SV.c (Value.int IntKind.u32 h.win), SV.a (0 : Nat), SV.a (1 : Nat)]) ∧
  True) ∧ some R.dead = some R.dead ∧ some (R.own (5 : Nat) (D.ints IntKind.u8 ([] ++ be (IntKind.u64.wrap h.cum) (Int.toNat (4 : Int)) ++ be (IntKind.u64.wrap h.win) (Int.toNat (4 : Int)) ++ be (IntKind.u64.wrap (↑h.gaps.length : Int)) (Int.toNat (2 : Int))))) = some (R.own (5 : Nat) (D.ints IntKind.u8 ([] ++ be (IntKind.u64.wrap h.cum) (Int.toNat (4 : Int)) ++ be (IntKind.u64.wrap h.win) (Int.toNat (4 : Int)) ++ be (IntKind.u64.wrap (↑h.gaps.length : Int)) (Int.toNat (2 : Int))))) ∧
  some (R.own (5 : Nat) (D.ints IntKind.u8 ([] ++ be (IntKind.u64.wrap h.cum) (Int.toNat (4 : Int)) ++ be (IntKind.u64.wrap h.win) (Int.toNat (4 : Int))))) = some (R.own (5 : Nat) (D.ints IntKind.u8 ([] ++ be (IntKind.u64.wrap h.cum) (Int.toNat (4 : Int)) ++ be (IntKind.u64.wrap h.win) (Int.toNat (4 : Int))))) ∧
  some (R.own (5 : Nat) (D.ints IntKind.u8 ([] ++ be (IntKind.u64.wrap h.cum) (Int.toNat (4 : Int))))) = some (R.own (5 : Nat) (D.ints IntKind.u8 ([] ++ be (IntKind.u64.wrap h.cum) (Int.toNat (4 : Int))))) ∧
  some (R.blk (45 : Nat) [SV.c (Value.int IntKind.u8 (0 : Int)), SV.c (Value.int IntKind.u8 (0 : Int)), SV.nil]) = some (R.blk (45 : Nat) [SV.c (Value.int IntKind.u8 (0 : Int)), SV.c (Value.int IntKind.u8 (0 : Int)), SV.nil]) ∧
  some (R.blk (63 : Nat) [SV.c (Value.int IntKind.u32 h.cum), SV.c (Value.int IntKind.u32 h.win), SV.a (0 : Nat), SV.a (1 : Nat)]) = some (R.blk (63 : Nat) [SV.c (Value.int IntKind.u32 h.cum), SV.c (Value.int IntKind.u32 h.win), SV.a (0 : Nat), SV.a (1 : Nat)]) ∧
  some (R.ro (D.ints IntKind.u32 h.dups)) = some (R.ro (D.ints IntKind.u32 h.dups)) ∧ some (R.ro (D.recs (2 : Nat) h.gaps.length (gapCell h.gaps))) = some (R.ro (D.recs (2 : Nat) h.gaps.length (gapCell h.gaps))) ∧
  True) ((3 : Int) = (fromHea (HeaR.mk h.cum h.win (gapsOf (D.recs (2 : Nat) h.gaps.length (gapCell h.gaps))) h.dups)).fst.t ∧ (0 : Int) = (fromHea (HeaR.mk h.cum h.win (gapsOf (D.recs (2 : Nat) h.gaps.length (gapCell h.gaps))) h.dups)).fst.f ∧
  heaH h ++ gapsB h.gaps ++ dupsB (List.take g_1 h.dups) = (fromHea (HeaR.mk h.cum h.win (gapsOf (D.recs (2 : Nat) h.gaps.length (gapCell h.gaps))) h.dups)).fst.v ∧
  (0 : Int) = (fromHea (HeaR.mk h.cum h.win (gapsOf (D.recs (2 : Nat) h.gaps.length (gapCell h.gaps))) h.dups)).snd ∧ (!false && true && true) = true)))) := by
  simp only [↓sw_iff, ↓Bool.and_eq_true, ↓decide_eq_true_eq, ↓decide_eq_false_iff_not, ↓Bool.not_eq_true', ↓Bool.not_eq_false', true_and, and_true, implies_true, Bool.or_false, Nat.ble, Nat.beq, Int.toNat_natCast, List.nil_append, toNat2, toNat4, gapsOf_gaps, hea_eta]
  intro h ok
  obtain ⟨k1, k2, ⟨k3, k4⟩, ⟨k5, k6⟩⟩ := ok
  rw [u64_id (n := h.cum) k1.1 k1.2 (by decide), u64_id (n := h.win) k2.1 k2.2 (by decide), u64_id (n := (h.gaps.length : Int)) (m := 1073741824) (by omega) (by omega) (by decide), u64_id (n := (h.dups.length : Int)) (m := 1073741824) (by omega) (by omega) (by decide)]
  simp only [Bool.or_eq_true, Bool.or_eq_false_iff, decide_eq_true_eq, decide_eq_false_iff_not]
  refine ⟨⟨_, rfl, k3, k4⟩, fun e => leaf0 (fromHea_e1 e), fun e => ⟨fun e' => leaf0 (fromHea_e2 e (by omega)), fun e' => ?_⟩⟩
  rw [fromHea_e3 e (by omega)]
  refine ⟨⟨_, _, 4, rfl, by unfold sm; simp [], by decide, by decide⟩, ⟨_, _, 4, rfl, by unfold sm; simp [be_len], by decide, by decide⟩, ⟨_, _, 2, rfl, by unfold sm; simp [be_len], by decide, by decide⟩, ⟨_, _, 2, rfl, by unfold sm; simp [be_len], by decide, by decide⟩, 0, Nat.zero_le _, rfl, by simp [heaH, gapsB], ?_⟩
  intro i hi
  refine ⟨fun hlt => ?_, fun hge => ?_⟩
  · have hi' : i < h.gaps.length := by omega
    obtain ⟨⟨m1, m2⟩, ⟨m3, m4⟩⟩ := k4 _ (getD_mem (d := ((0 : Int), (0 : Int))) hi')
    rw [u64_id (n := (h.gaps.getD i (0, 0)).1) m1 m2 (by decide), u64_id (n := (h.gaps.getD i (0, 0)).2) m3 m4 (by decide)]
    have hl : (heaH h ++ gapsB (h.gaps.take i)).length ≤ 1000 := by rw [List.length_append, heaH_len, gapsB_len, List.length_take]; omega
    refine ⟨⟨by omega, by omega⟩, ⟨_, _, 2, rfl, by unfold sm; omega, by decide, by decide⟩, ⟨by omega, by omega⟩, ⟨_, _, 2, rfl, by unfold sm; rw [List.length_append, be_len]; omega, by decide, by decide⟩, i + 1, by omega, by omega, by rw [wrap_i64_id (by omega) (by omega)]; rfl, ?_⟩
    rw [take_snoc (0, 0) hi', gapsB_append, gapsB_one]; simp [gapB]
  · have ht : h.gaps.take i = h.gaps := List.take_of_length_le (by omega)
    rw [ht]
    refine ⟨0, Nat.zero_le _, rfl, by simp [dupsB], ?_⟩
    intro j hj
    refine ⟨fun hlt => ?_, fun hge => ?_⟩
    · have hj' : j < h.dups.length := by omega
      obtain ⟨m1, m2⟩ := k6 _ (getD_mem (d := (0 : Int)) hj')
      rw [u64_id (n := h.dups.getD j 0) m1 m2 (by decide)]
      have hl : (heaH h ++ gapsB h.gaps ++ dupsB (h.dups.take j)).length ≤ 1000 := by rw [List.length_append, List.length_append, heaH_len, gapsB_len, dupsB_len, List.length_take]; omega
      refine ⟨⟨by omega, by omega⟩, ⟨_, _, 4, rfl, by unfold sm; omega, by decide, by decide⟩, j + 1, by omega, by omega, by rw [wrap_i64_id (by omega) (by omega)]; rfl, ?_⟩
      rw [take_snoc 0 hj', dupsB_append, dupsB_one]; simp
    · rw [List.take_of_length_le (by omega)]
      exact ⟨rfl, rfl, rfl, rfl⟩
set_option maxRecDepth 100000 in
theorem ok35 : FnIs Try.prog 35 fromHeaC := by
  refine fnIs (C := (ctrs c25)) (by kernel_rfl) c25_ok Try.func35 (code := code35) (by kernel_rfl) (by kernel_rfl) ?_
  rintro a ⟨h, rfl, ok⟩
  exact ⟨anns [(10, gapsAnn 5 4 h), (15, dupsAnn 6 4 h)], kcast (vc35 h ok) (by kernel_rfl)⟩

end Go.ZR

/- What a side has heard: compared. -/
namespace Go.ZR
open Go.Proofs
open Go.Z Go.ZM Go.RowKit
set_option maxRecDepth 100000
theorem hea_no1 {h g : HeaR} {i : Nat} (h1 : i < h.gaps.length) (h2 : i < g.gaps.length) (e : ¬ h.gaps.getD i (0, 0) = g.gaps.getD i (0, 0)) : false = sameHea h g := by
  have : (List.range (min h.gaps.length g.gaps.length)).all (fun i => decide (h.gaps.getD i (0, 0) = g.gaps.getD i (0, 0))) = false := by
    rw [List.all_eq_false]; exact ⟨i, List.mem_range.2 (by omega), by simpa using e⟩
  unfold sameHea
  rw [this]; rfl
theorem hea_no2 {h g : HeaR} {i : Nat} (h1 : i < h.dups.length) (h2 : i < g.dups.length) (e : ¬ h.dups.getD i 0 = g.dups.getD i 0) : false = sameHea h g := by
  have : (List.range (min h.dups.length g.dups.length)).all (fun i => decide (h.dups.getD i 0 = g.dups.getD i 0)) = false := by
    rw [List.all_eq_false]; exact ⟨i, List.mem_range.2 (by omega), by simpa using e⟩
  unfold sameHea
  rw [this, Bool.and_false]; rfl
theorem hea_end {h g : HeaR} {i k : Nat} (h1 : ∀ j, j < i → h.gaps.getD j (0, 0) = g.gaps.getD j (0, 0)) (h2 : ¬ i < h.gaps.length ∨ ¬ i < g.gaps.length) (h3 : ∀ j, j < k → h.dups.getD j 0 = g.dups.getD j 0) (h4 : ¬ k < h.dups.length ∨ ¬ k < g.dups.length) :
    (decide (h.cum = g.cum) && decide (h.win = g.win) && decide ((h.gaps.length : Int) = (g.gaps.length : Int)) && decide ((h.dups.length : Int) = (g.dups.length : Int))) = sameHea h g := by
  have e1 : decide ((h.gaps.length : Int) = (g.gaps.length : Int)) = decide (h.gaps.length = g.gaps.length) := by rw [decide_eq_decide]; omega
  have e2 : decide ((h.dups.length : Int) = (g.dups.length : Int)) = decide (h.dups.length = g.dups.length) := by rw [decide_eq_decide]; omega
  have a1 : (List.range (min h.gaps.length g.gaps.length)).all (fun i => decide (h.gaps.getD i (0, 0) = g.gaps.getD i (0, 0))) = true := by
    rw [List.all_eq_true]; intro j hj; have := List.mem_range.1 hj; exact decide_eq_true (h1 j (by omega))
  have a2 : (List.range (min h.dups.length g.dups.length)).all (fun i => decide (h.dups.getD i 0 = g.dups.getD i 0)) = true := by
    rw [List.all_eq_true]; intro j hj; have := List.mem_range.1 hj; exact decide_eq_true (h3 j (by omega))
  unfold sameHea
  rw [e1, e2, a1, a2]; rfl
noncomputable def code37 : Code := match Try.f37.body with | some c => c | none => .skip
set_option maxHeartbeats 4000000 in
theorem vc37 : ∀ (h g : HeaR), okHea h → okHea g → ∃ (g0 : Nat), (g0 ≤ h.gaps.length ∧ g0 ≤ g.gaps.length ∧ ∀ (j : Nat), j < g0 → h.gaps.getD j ((0 : Int), (0 : Int)) = g.gaps.getD j ((0 : Int), (0 : Int))) ∧
  (0 : Int) = (↑g0 : Int) ∧ (true && true) = true ∧ ∀ (g_1 : Nat), (g_1 ≤ h.gaps.length ∧ g_1 ≤ g.gaps.length ∧ ∀ (j : Nat), j < g_1 → h.gaps.getD j ((0 : Int), (0 : Int)) = g.gaps.getD j ((0 : Int), (0 : Int))) →
  True ∧ sw (decide ((↑g_1 : Int) < (↑h.gaps.length : Int))) (SV.c (Value.int IntKind.i64 (↑g_1 : Int)) = SV.c (Value.int IntKind.i64 (↑g_1 : Int))) True ∧
  sw (decide ((↑g_1 : Int) < (↑h.gaps.length : Int))) (SV.p (5 : Nat) (2 : Nat) = SV.p (5 : Nat) (2 : Nat)) True ∧ sw (decide ((↑g_1 : Int) < (↑h.gaps.length : Int))) ([decide ((↑g_1 : Int) < (↑h.gaps.length : Int))] = [decide ((↑g_1 : Int) < (↑h.gaps.length : Int))] ∧
  SV.a (2 : Nat) = SV.a (2 : Nat)) True ∧ sw (decide ((↑g_1 : Int) < (↑h.gaps.length : Int))) ([decide ((↑g_1 : Int) < (↑h.gaps.length : Int))] = [decide ((↑g_1 : Int) < (↑h.gaps.length : Int))] ∧
  SV.c (Value.int IntKind.i64 (↑g.gaps.length : Int)) = SV.c (Value.int IntKind.i64 (↑g.gaps.length : Int))) True ∧ sw (decide ((↑g_1 : Int) < (↑h.gaps.length : Int))) ([decide ((↑g_1 : Int) < (↑h.gaps.length : Int))] = [decide ((↑g_1 : Int) < (↑h.gaps.length : Int))] ∧
  [decide ((↑g_1 : Int) < (↑h.gaps.length : Int))] = [decide ((↑g_1 : Int) < (↑h.gaps.length : Int))] ∧ True ∧ SV.c (Value.bool (decide ((↑g_1 : Int) < (↑g.gaps.length : Int)))) = SV.c (Value.bool (decide ((↑g_1 : Int) < (↑g.gaps.length : Int))))) True ∧
  [decide ((↑g_1 : Int) < (↑h.gaps.length : Int))] = [decide ((↑g_1 : Int) < (↑h.gaps.length : Int))] ∧ sw (decide ((↑g_1 : Int) < (↑h.gaps.length : Int)) && decide ((↑g_1 : Int) < (↑g.gaps.length : Int))) (((0 : Int) ≤ (↑g_1 : Int) ∧
  (↑g_1 : Int) < (↑h.gaps.length : Int)) ∧ ((0 : Int) ≤ (↑g_1 : Int) ∧ (↑g_1 : Int) < (↑g.gaps.length : Int)) ∧ sw (!(decide ((h.gaps.getD (↑g_1 : Int).toNat ((0 : Int), (0 : Int))).fst = (g.gaps.getD (↑g_1 : Int).toNat ((0 : Int), (0 : Int))).fst) && decide ((h.gaps.getD (↑g_1 : Int).toNat ((0 : Int), (0 : Int))).snd = (g.gaps.getD (↑g_1 : Int).toNat ((0 : Int), (0 : Int))).snd))) (false = sameHea (HeaR.mk h.cum h.win (gapsOf (D.recs (2 : Nat) h.gaps.length (gapCell h.gaps))) h.dups) (HeaR.mk g.cum g.win (gapsOf (D.recs (2 : Nat) g.gaps.length (gapCell g.gaps))) g.dups) ∧
  (true && true) = true) (True ∧ ∃ (g' : Nat), (g' ≤ h.gaps.length ∧ g' ≤ g.gaps.length ∧ ∀ (j : Nat), j < g' → h.gaps.getD j ((0 : Int), (0 : Int)) = g.gaps.getD j ((0 : Int), (0 : Int))) ∧
  h.gaps.length - g' < h.gaps.length - g_1 ∧ (IntKind.i64.wrap ((↑g_1 : Int) + (1 : Int)) = (↑g' : Int) ∧ (true && true && true) = true) ∧ (some (SV.p (5 : Nat) (0 : Nat)) = some (SV.p (5 : Nat) (0 : Nat)) ∧
  some (SV.p (4 : Nat) (0 : Nat)) = some (SV.p (4 : Nat) (0 : Nat)) ∧ some (SV.agg [SV.c (Value.int IntKind.u32 h.cum), SV.c (Value.int IntKind.u32 h.win), SV.a (0 : Nat), SV.a (1 : Nat)]) = some (SV.agg [SV.c (Value.int IntKind.u32 h.cum), SV.c (Value.int IntKind.u32 h.win), SV.a (0 : Nat), SV.a (1 : Nat)]) ∧
  some (SV.agg [SV.c (Value.int IntKind.u32 g.cum), SV.c (Value.int IntKind.u32 g.win), SV.a (2 : Nat), SV.a (3 : Nat)]) = some (SV.agg [SV.c (Value.int IntKind.u32 g.cum), SV.c (Value.int IntKind.u32 g.win), SV.a (2 : Nat), SV.a (3 : Nat)]) ∧
  True) ∧ some (R.blk (63 : Nat) [SV.c (Value.int IntKind.u32 g.cum), SV.c (Value.int IntKind.u32 g.win), SV.a (2 : Nat), SV.a (3 : Nat)]) = some (R.blk (63 : Nat) [SV.c (Value.int IntKind.u32 g.cum), SV.c (Value.int IntKind.u32 g.win), SV.a (2 : Nat), SV.a (3 : Nat)]) ∧
  some (R.blk (63 : Nat) [SV.c (Value.int IntKind.u32 h.cum), SV.c (Value.int IntKind.u32 h.win), SV.a (0 : Nat), SV.a (1 : Nat)]) = some (R.blk (63 : Nat) [SV.c (Value.int IntKind.u32 h.cum), SV.c (Value.int IntKind.u32 h.win), SV.a (0 : Nat), SV.a (1 : Nat)]) ∧
  some (R.ro (D.ints IntKind.u32 g.dups)) = some (R.ro (D.ints IntKind.u32 g.dups)) ∧ some (R.ro (D.recs (2 : Nat) g.gaps.length (gapCell g.gaps))) = some (R.ro (D.recs (2 : Nat) g.gaps.length (gapCell g.gaps))) ∧
  some (R.ro (D.ints IntKind.u32 h.dups)) = some (R.ro (D.ints IntKind.u32 h.dups)) ∧ some (R.ro (D.recs (2 : Nat) h.gaps.length (gapCell h.gaps))) = some (R.ro (D.recs (2 : Nat) h.gaps.length (gapCell h.gaps))) ∧
  True)) (∃ (g0_1 : Nat), (g0_1 ≤ h.dups.length ∧ g0_1 ≤ g.dups.length ∧ ∀ (j : Nat), j < g0_1 → h.dups.getD j (0 : Int) = g.dups.getD j (0 : Int)) ∧ (0 : Int) = (↑g0_1 : Int) ∧
  (true && true) = true ∧ ∀ (g_2 : Nat), (g_2 ≤ h.dups.length ∧ g_2 ≤ g.dups.length ∧ ∀ (j : Nat), j < g_2 → h.dups.getD j (0 : Int) = g.dups.getD j (0 : Int)) →
  True ∧ sw (decide ((↑g_2 : Int) < (↑h.dups.length : Int))) (SV.c (Value.int IntKind.i64 (↑g_2 : Int)) = SV.c (Value.int IntKind.i64 (↑g_2 : Int))) True ∧
  sw (decide ((↑g_2 : Int) < (↑h.dups.length : Int))) (SV.p (5 : Nat) (3 : Nat) = SV.p (5 : Nat) (3 : Nat)) True ∧ sw (decide ((↑g_2 : Int) < (↑h.dups.length : Int))) ([decide ((↑g_2 : Int) < (↑h.dups.length : Int))] = [decide ((↑g_2 : Int) < (↑h.dups.length : Int))] ∧
  SV.a (3 : Nat) = SV.a (3 : Nat)) True ∧ sw (decide ((↑g_2 : Int) < (↑h.dups.length : Int))) ([decide ((↑g_2 : Int) < (↑h.dups.length : Int))] = [decide ((↑g_2 : Int) < (↑h.dups.length : Int))] ∧
  SV.c (Value.int IntKind.i64 (↑g.dups.length : Int)) = SV.c (Value.int IntKind.i64 (↑g.dups.length : Int))) True ∧ sw (decide ((↑g_2 : Int) < (↑h.dups.length : Int))) ([decide ((↑g_2 : Int) < (↑h.dups.length : Int))] = [decide ((↑g_2 : Int) < (↑h.dups.length : Int))] ∧
  [decide ((↑g_2 : Int) < (↑h.dups.length : Int))] = [decide ((↑g_2 : Int) < (↑h.dups.length : Int))] ∧ True ∧ SV.c (Value.bool (decide ((↑g_2 : Int) < (↑g.dups.length : Int)))) = SV.c (Value.bool (decide ((↑g_2 : Int) < (↑g.dups.length : Int))))) True ∧
  [decide ((↑g_2 : Int) < (↑h.dups.length : Int))] = [decide ((↑g_2 : Int) < (↑h.dups.length : Int))] ∧ sw (decide ((↑g_2 : Int) < (↑h.dups.length : Int)) && decide ((↑g_2 : Int) < (↑g.dups.length : Int))) (((0 : Int) ≤ (↑g_2 : Int) ∧
  (↑g_2 : Int) < (↑h.dups.length : Int)) ∧ ((0 : Int) ≤ (↑g_2 : Int) ∧ (↑g_2 : Int) < (↑g.dups.length : Int)) ∧ True ∧ sw (!decide (h.dups.getD (↑g_2 : Int).toNat (0 : Int) = g.dups.getD (↑g_2 : Int).toNat (0 : Int))) (false = sameHea (HeaR.mk h.cum h.win (gapsOf (D.recs (2 : Nat) h.gaps.length (gapCell h.gaps))) h.dups) (HeaR.mk g.cum g.win (gapsOf (D.recs (2 : Nat) g.gaps.length (gapCell g.gaps))) g.dups) ∧
  (true && true) = true) (True ∧ ∃ (g' : Nat), (g' ≤ h.dups.length ∧ g' ≤ g.dups.length ∧ ∀ (j : Nat), j < g' → h.dups.getD j (0 : Int) = g.dups.getD j (0 : Int)) ∧
  h.dups.length - g' < h.dups.length - g_2 ∧ (IntKind.i64.wrap ((↑g_2 : Int) + (1 : Int)) = (↑g' : Int) ∧ (true && true && true) = true) ∧ (some (SV.c (Value.bool (decide ((↑g_1 : Int) < (↑h.gaps.length : Int)) && decide ((↑g_1 : Int) < (↑g.gaps.length : Int))))) = some (SV.c (Value.bool (decide ((↑g_1 : Int) < (↑h.gaps.length : Int)) && decide ((↑g_1 : Int) < (↑g.gaps.length : Int))))) ∧
  some (SV.w [decide ((↑g_1 : Int) < (↑h.gaps.length : Int))] (SV.c (Value.bool (decide ((↑g_1 : Int) < (↑g.gaps.length : Int)))))) = some (SV.w [decide ((↑g_1 : Int) < (↑h.gaps.length : Int))] (SV.c (Value.bool (decide ((↑g_1 : Int) < (↑g.gaps.length : Int)))))) ∧
  some (SV.w [decide ((↑g_1 : Int) < (↑h.gaps.length : Int))] (SV.c (Value.int IntKind.i64 (↑g.gaps.length : Int)))) = some (SV.w [decide ((↑g_1 : Int) < (↑h.gaps.length : Int))] (SV.c (Value.int IntKind.i64 (↑g.gaps.length : Int)))) ∧
  some (SV.w [decide ((↑g_1 : Int) < (↑h.gaps.length : Int))] (SV.a (2 : Nat))) = some (SV.w [decide ((↑g_1 : Int) < (↑h.gaps.length : Int))] (SV.a (2 : Nat))) ∧
  some (SV.w [decide ((↑g_1 : Int) < (↑h.gaps.length : Int))] (SV.p (5 : Nat) (2 : Nat))) = some (SV.w [decide ((↑g_1 : Int) < (↑h.gaps.length : Int))] (SV.p (5 : Nat) (2 : Nat))) ∧
  some (SV.w [decide ((↑g_1 : Int) < (↑h.gaps.length : Int))] (SV.c (Value.int IntKind.i64 (↑g_1 : Int)))) = some (SV.w [decide ((↑g_1 : Int) < (↑h.gaps.length : Int))] (SV.c (Value.int IntKind.i64 (↑g_1 : Int)))) ∧
  some (SV.c (Value.bool (decide ((↑g_1 : Int) < (↑h.gaps.length : Int))))) = some (SV.c (Value.bool (decide ((↑g_1 : Int) < (↑h.gaps.length : Int))))) ∧
  some (SV.c (Value.bool (decide ((↑g_1 : Int) < (↑h.gaps.length : Int))))) = some (SV.c (Value.bool (decide ((↑g_1 : Int) < (↑h.gaps.length : Int))))) ∧
  some (SV.c (Value.int IntKind.i64 (↑h.gaps.length : Int))) = some (SV.c (Value.int IntKind.i64 (↑h.gaps.length : Int))) ∧ some (SV.a (0 : Nat)) = some (SV.a (0 : Nat)) ∧
  some (SV.p (4 : Nat) (2 : Nat)) = some (SV.p (4 : Nat) (2 : Nat)) ∧ some (SV.c (Value.int IntKind.i64 (↑g_1 : Int))) = some (SV.c (Value.int IntKind.i64 (↑g_1 : Int))) ∧
  some (SV.c (Value.int IntKind.i64 (↑g_1 : Int))) = some (SV.c (Value.int IntKind.i64 (↑g_1 : Int))) ∧ some (SV.p (5 : Nat) (0 : Nat)) = some (SV.p (5 : Nat) (0 : Nat)) ∧
  some (SV.p (4 : Nat) (0 : Nat)) = some (SV.p (4 : Nat) (0 : Nat)) ∧ some (SV.agg [SV.c (Value.int IntKind.u32 h.cum), SV.c (Value.int IntKind.u32 h.win), SV.a (0 : Nat), SV.a (1 : Nat)]) = some (SV.agg [SV.c (Value.int IntKind.u32 h.cum), SV.c (Value.int IntKind.u32 h.win), SV.a (0 : Nat), SV.a (1 : Nat)]) ∧
  some (SV.agg [SV.c (Value.int IntKind.u32 g.cum), SV.c (Value.int IntKind.u32 g.win), SV.a (2 : Nat), SV.a (3 : Nat)]) = some (SV.agg [SV.c (Value.int IntKind.u32 g.cum), SV.c (Value.int IntKind.u32 g.win), SV.a (2 : Nat), SV.a (3 : Nat)]) ∧
  True) ∧ some (R.blk (63 : Nat) [SV.c (Value.int IntKind.u32 g.cum), SV.c (Value.int IntKind.u32 g.win), SV.a (2 : Nat), SV.a (3 : Nat)]) = some (R.blk (63 : Nat) [SV.c (Value.int IntKind.u32 g.cum), SV.c (Value.int IntKind.u32 g.win), SV.a (2 : Nat), SV.a (3 : Nat)]) ∧
  some (R.blk (63 : Nat) [SV.c (Value.int IntKind.u32 h.cum), SV.c (Value.int IntKind.u32 h.win), SV.a (0 : Nat), SV.a (1 : Nat)]) = some (R.blk (63 : Nat) [SV.c (Value.int IntKind.u32 h.cum), SV.c (Value.int IntKind.u32 h.win), SV.a (0 : Nat), SV.a (1 : Nat)]) ∧
  some (R.ro (D.ints IntKind.u32 g.dups)) = some (R.ro (D.ints IntKind.u32 g.dups)) ∧ some (R.ro (D.recs (2 : Nat) g.gaps.length (gapCell g.gaps))) = some (R.ro (D.recs (2 : Nat) g.gaps.length (gapCell g.gaps))) ∧
  some (R.ro (D.ints IntKind.u32 h.dups)) = some (R.ro (D.ints IntKind.u32 h.dups)) ∧ some (R.ro (D.recs (2 : Nat) h.gaps.length (gapCell h.gaps))) = some (R.ro (D.recs (2 : Nat) h.gaps.length (gapCell h.gaps))) ∧
  True)) (True ∧ sw (decide (h.cum = g.cum)) (SV.p (4 : Nat) (1 : Nat) = SV.p (4 : Nat) (1 : Nat)) True ∧ sw (decide (h.cum = g.cum)) ([decide (h.cum = g.cum)] = [decide (h.cum = g.cum)] ∧
  SV.c (Value.int IntKind.u32 h.win) = SV.c (Value.int IntKind.u32 h.win)) True ∧ sw (decide (h.cum = g.cum)) (SV.p (5 : Nat) (1 : Nat) = SV.p (5 : Nat) (1 : Nat)) True ∧
  sw (decide (h.cum = g.cum)) ([decide (h.cum = g.cum)] = [decide (h.cum = g.cum)] ∧ SV.c (Value.int IntKind.u32 g.win) = SV.c (Value.int IntKind.u32 g.win)) True ∧
  sw (decide (h.cum = g.cum)) ([decide (h.cum = g.cum)] = [decide (h.cum = g.cum)] ∧ [decide (h.cum = g.cum)] = [decide (h.cum = g.cum)] ∧ True ∧ SV.c (Value.bool (decide (h.win = g.win))) = SV.c (Value.bool (decide (h.win = g.win)))) True ∧
  [decide (h.cum = g.cum)] = [decide (h.cum = g.cum)] ∧ sw (decide (h.cum = g.cum) && decide (h.win = g.win)) (SV.p (4 : Nat) (2 : Nat) = SV.p (4 : Nat) (2 : Nat)) True ∧
  sw (decide (h.cum = g.cum) && decide (h.win = g.win)) ([decide (h.cum = g.cum) && decide (h.win = g.win)] = [decide (h.cum = g.cum) && decide (h.win = g.win)] ∧
  SV.a (0 : Nat) = SV.a (0 : Nat)) True ∧ sw (decide (h.cum = g.cum) && decide (h.win = g.win)) ([decide (h.cum = g.cum) && decide (h.win = g.win)] = [decide (h.cum = g.cum) && decide (h.win = g.win)] ∧
  SV.c (Value.int IntKind.i64 (↑h.gaps.length : Int)) = SV.c (Value.int IntKind.i64 (↑h.gaps.length : Int))) True ∧ sw (decide (h.cum = g.cum) && decide (h.win = g.win)) (SV.p (5 : Nat) (2 : Nat) = SV.p (5 : Nat) (2 : Nat)) True ∧
  sw (decide (h.cum = g.cum) && decide (h.win = g.win)) ([decide (h.cum = g.cum) && decide (h.win = g.win)] = [decide (h.cum = g.cum) && decide (h.win = g.win)] ∧
  SV.a (2 : Nat) = SV.a (2 : Nat)) True ∧ sw (decide (h.cum = g.cum) && decide (h.win = g.win)) ([decide (h.cum = g.cum) && decide (h.win = g.win)] = [decide (h.cum = g.cum) && decide (h.win = g.win)] ∧
  SV.c (Value.int IntKind.i64 (↑g.gaps.length : Int)) = SV.c (Value.int IntKind.i64 (↑g.gaps.length : Int))) True ∧ sw (decide (h.cum = g.cum) && decide (h.win = g.win)) ([decide (h.cum = g.cum) && decide (h.win = g.win)] = [decide (h.cum = g.cum) && decide (h.win = g.win)] ∧
  [decide (h.cum = g.cum) && decide (h.win = g.win)] = [decide (h.cum = g.cum) && decide (h.win = g.win)] ∧ True ∧ SV.c (Value.bool (decide ((↑h.gaps.length : Int) = (↑g.gaps.length : Int)))) = SV.c (Value.bool (decide ((↑h.gaps.length : Int) = (↑g.gaps.length : Int))))) True ∧
  [decide (h.cum = g.cum) && decide (h.win = g.win)] = [decide (h.cum = g.cum) && decide (h.win = g.win)] ∧ sw (decide (h.cum = g.cum) && decide (h.win = g.win) && decide ((↑h.gaps.length : Int) = (↑g.gaps.length : Int))) (SV.p (4 : Nat) (3 : Nat) = SV.p (4 : Nat) (3 : Nat)) True ∧
  sw (decide (h.cum = g.cum) && decide (h.win = g.win) && decide ((↑h.gaps.length : Int) = (↑g.gaps.length : Int))) ([decide (h.cum = g.cum) && decide (h.win = g.win) && decide ((↑h.gaps.length : Int) = (↑g.gaps.length : Int))] = [decide (h.cum = g.cum) && decide (h.win = g.win) && decide ((↑h.gaps.length : Int) = (↑g.gaps.length : Int))] ∧
  SV.a (1 : Nat) = SV.a (1 : Nat)) True ∧ sw (decide (h.cum = g.cum) && decide (h.win = g.win) && decide ((↑h.gaps.length : Int) = (↑g.gaps.length : Int))) ([decide (h.cum = g.cum) && decide (h.win = g.win) && decide ((↑h.gaps.length : Int) = (↑g.gaps.length : Int))] = [decide (h.cum = g.cum) && decide (h.win = g.win) && decide ((↑h.gaps.length : Int) = (↑g.gaps.length : Int))] ∧
  SV.c (Value.int IntKind.i64 (↑h.dups.length : Int)) = SV.c (Value.int IntKind.i64 (↑h.dups.length : Int))) True ∧ sw (decide (h.cum = g.cum) && decide (h.win = g.win) && decide ((↑h.gaps.length : Int) = (↑g.gaps.length : Int))) (SV.p (5 : Nat) (3 : Nat) = SV.p (5 : Nat) (3 : Nat)) True ∧
  sw (decide (h.cum = g.cum) && decide (h.win = g.win) && decide ((↑h.gaps.length : Int) = (↑g.gaps.length : Int))) ([decide (h.cum = g.cum) && decide (h.win = g.win) && decide ((↑h.gaps.length : Int) = (↑g.gaps.length : Int))] = [decide (h.cum = g.cum) && decide (h.win = g.win) && decide ((↑h.gaps.length : Int) = (↑g.gaps.length : Int))] ∧
  SV.a (3 : Nat) = SV.a (3 : Nat)) True ∧ sw (decide (h.cum = g.cum) && decide (h.win = g.win) && decide ((↑h.gaps.length : Int) = (↑g.gaps.length : Int))) ([decide (h.cum = g.cum) && decide (h.win = g.win) && decide ((↑h.gaps.length : Int) = (↑g.gaps.length : Int))] = [decide (h.cum = g.cum) && decide (h.win = g.win) && decide ((↑h.gaps.length : Int) = (↑g.gaps.length : Int))] ∧
  SV.c (Value.int IntKind.i64 (↑g.dups.length : Int)) = SV.c (Value.int IntKind.i64 (↑g.dups.length : Int))) True ∧ sw (decide (h.cum = g.cum) && decide (h.win = g.win) && decide ((↑h.gaps.length : Int) = (↑g.gaps.length : Int))) ([decide (h.cum = g.cum) && decide (h.win = g.win) && decide ((↑h.gaps.length : Int) = (↑g.gaps.length : Int))] = [decide (h.cum = g.cum) && decide (h.win = g.win) && decide ((↑h.gaps.length : Int) = (↑g.gaps.length : Int))] ∧
  [decide (h.cum = g.cum) && decide (h.win = g.win) && decide ((↑h.gaps.length : Int) = (↑g.gaps.length : Int))] = [decide (h.cum = g.cum) && decide (h.win = g.win) && decide ((↑h.gaps.length : Int) = (↑g.gaps.length : Int))] ∧
  True ∧ SV.c (Value.bool (decide ((↑h.dups.length : Int) = (↑g.dups.length : Int)))) = SV.c (Value.bool (decide ((↑h.dups.length : Int) = (↑g.dups.length : Int))))) True ∧
  [decide (h.cum = g.cum) && decide (h.win = g.win) && decide ((↑h.gaps.length : Int) = (↑g.gaps.length : Int))] = [decide (h.cum = g.cum) && decide (h.win = g.win) && decide ((↑h.gaps.length : Int) = (↑g.gaps.length : Int))] ∧
  (decide (h.cum = g.cum) && decide (h.win = g.win) && decide ((↑h.gaps.length : Int) = (↑g.gaps.length : Int)) && decide ((↑h.dups.length : Int) = (↑g.dups.length : Int))) = sameHea (HeaR.mk h.cum h.win (gapsOf (D.recs (2 : Nat) h.gaps.length (gapCell h.gaps))) h.dups) (HeaR.mk g.cum g.win (gapsOf (D.recs (2 : Nat) g.gaps.length (gapCell g.gaps))) g.dups) ∧
  (true && true) = true)) := by
  simp only [↓sw_iff, ↓Bool.and_eq_true, ↓Bool.and_eq_false_iff, ↓decide_eq_true_eq, ↓decide_eq_false_iff_not, ↓Bool.not_eq_true', ↓Bool.not_eq_false', true_and, and_true, implies_true, Int.toNat_natCast, gapsOf_gaps, hea_eta]
  intro h g oh og
  obtain ⟨_, _, ⟨k1, _⟩, ⟨k2, _⟩⟩ := oh
  refine ⟨0, ⟨Nat.zero_le _, Nat.zero_le _, fun j hj => absurd hj (Nat.not_lt_zero _)⟩, rfl, ?_⟩
  rintro i ⟨g1, g2, g3⟩
  refine ⟨fun hlt => ⟨⟨by omega, by omega⟩, ⟨by omega, by omega⟩, fun e => ?_, fun e => ?_⟩, fun hge => ⟨0, ⟨Nat.zero_le _, Nat.zero_le _, fun j hj => absurd hj (Nat.not_lt_zero _)⟩, rfl, ?_⟩⟩
  · exact hea_no1 (i := i) (by omega) (by omega) fun x => by rw [x] at e; simp at e
  · have e' : h.gaps.getD i (0, 0) = g.gaps.getD i (0, 0) := Prod.ext e.1 e.2
    refine ⟨i + 1, ⟨by omega, by omega, fun j hj => ?_⟩, by omega, by rw [wrap_i64_id (by omega) (by omega)]; rfl⟩
    by_cases hji : j = i
    · subst hji; exact e'
    · exact g3 j (by omega)
  · rintro k ⟨m1, m2, m3⟩
    refine ⟨fun hlt => ⟨⟨by omega, by omega⟩, ⟨by omega, by omega⟩, fun e => hea_no2 (by omega) (by omega) e, fun e => ⟨k + 1, ⟨by omega, by omega, fun j hj => ?_⟩, by omega, by rw [wrap_i64_id (by omega) (by omega)]; rfl⟩⟩, fun hge' => hea_end g3 (by omega) m3 (by omega)⟩
    by_cases hjk : j = k
    · subst hjk; exact e
    · exact m3 j (by omega)
set_option maxRecDepth 100000 in
theorem ok37 : FnIs Try.prog 37 sameHeaC := by
  refine fnIs (C := (ctrs c0)) (by kernel_rfl) c0_ok Try.func37 (code := code37) (by kernel_rfl) (by kernel_rfl) ?_
  rintro a ⟨h, g, rfl, oh, og⟩
  exact ⟨anns [(2, samesG 5 h g), (7, samesD 6 h g)], kcast (vc37 h g oh og) (by kernel_rfl)⟩

end Go.ZR
