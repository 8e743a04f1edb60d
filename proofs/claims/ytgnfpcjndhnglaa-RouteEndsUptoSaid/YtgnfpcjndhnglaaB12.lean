/- The ways of requests: B12 -/
import Derived.Test.YtgnfpcjndhnglaaRows
import Derived.Test.YtgnfpcjndhnglaaB11
namespace Go.YR
open Go.Proofs
open Go.Y Go.YM Go.RowKit
theorem size9 : Try.prog.types[(9 : Nat)].size = 1 := by kernel_rfl
theorem strsOf_nil (es : Nat) (f : Nat → Nat → D) : strsOf (.recs es 0 f) = [] := rfl
theorem rtsOf_nil (es : Nat) (f : Nat → Nat → D) : rtsOf (.recs es 0 f) = [] := rfl
theorem strsOf_one (es : Nat) (f : Nat → Nat → D) : strsOf (.recs es 1 f) = [vs (f 0 0)] := rfl
theorem avpsOf_one (a : AvpR) : avpsOf (.recs 5 1 (avpCell [a])) = [a] := avpsOf_avps [a]
theorem asStrs_one (s : ByteArray) : asStrs (.recs 1 1 fun i j => [D.v (.string s)].getD (i * 1 + j) (.v undef)) [s] :=
  ⟨rfl, reads_recs fun i hi j hj => by
    obtain rfl : i = 0 := by omega
    obtain rfl : j = 0 := by omega
    rfl⟩
theorem req_one : reqF ⟨#[114]⟩ ⟨#[]⟩ [] = [reqAvp 283 ⟨#[114]⟩] := by
  rw [reqF, if_pos (show (⟨#[]⟩ : ByteArray) = noStr from rfl)]; rfl
theorem ans_pick : pickF ⟨⟨#[97]⟩, ⟨#[114]⟩, true, [], []⟩ [⟨#[97]⟩] [] [reqAvp 283 ⟨#[114]⟩] (-2) = (-1, 0) := by decide +kernel
noncomputable def code11 : Code := match Try.f11.body with | some c => c | none => .skip
theorem vc11 : let y := strsOf (D.recs Try.prog.types[(9 : Nat)].size (0 : Nat) fun (x x_1 : Nat) => D.v undef); let y_1 := pickA [O.agg [O.d (D.v (Value.string (ByteArray.mk #[(97 : UInt8)]))), O.d (D.v (Value.string (ByteArray.mk #[(114 : UInt8)]))), O.d (D.v (Value.bool true)), O.d (D.ints IntKind.i64 []), O.d (D.recs Try.prog.types[(45 : Nat)].size (0 : Nat) fun (x x_1 : Nat) => D.v undef)], O.d (D.recs Try.prog.types[(9 : Nat)].size (1 : Nat) fun (i j : Nat) => [D.v (Value.string (ByteArray.mk #[(97 : UInt8)]))].getD (i * Try.prog.types[(9 : Nat)].size + j) (D.v undef)), O.d (D.ints IntKind.i64 []), O.agg [O.d (D.v (Value.bool true)), O.d (D.v (Value.bool false)), O.d (D.v (Value.bool false)), O.d (D.v (Value.bool false)), O.d (D.v (Value.int IntKind.u32 (9300 : Int))), O.d (D.v (Value.int IntKind.u32 (0 : Int))), O.d (D.v (Value.int IntKind.u32 (0 : Int))), O.d (D.v (Value.int IntKind.u32 (0 : Int))), O.d (D.recs (5 : Nat) (1 : Nat) (avpCell (reqF (vs (D.v (Value.string (ByteArray.mk #[(114 : UInt8)])))) (vs (D.v (Value.string (ByteArray.mk #[])))) y)))], O.d (D.v (Value.int IntKind.i64 (-2 : Int)))];
  (((∃ (r : ByteArray), ∃ (h : ByteArray), ∃ (B : D), ∃ (b : List ByteArray), [O.d (D.v (Value.string (ByteArray.mk #[(114 : UInt8)]))), O.d (D.v (Value.string (ByteArray.mk #[]))), O.d (D.recs Try.prog.types[(9 : Nat)].size (0 : Nat) fun (x x_1 : Nat) => D.v undef)] = [O.d (D.v (Value.string r)), O.d (D.v (Value.string h)), O.d B] ∧
  small b.length ∧ asStrs B b) ∧ ((∃ (n : NdR), ∃ (names : List ByteArray), ∃ (up : List Int), ∃ (m : MsgR), ∃ (fr : Int), ∃ (R : D), ∃ (N : D), ∃ (A : D), [O.agg [O.d (D.v (Value.string (ByteArray.mk #[(97 : UInt8)]))), O.d (D.v (Value.string (ByteArray.mk #[(114 : UInt8)]))), O.d (D.v (Value.bool true)), O.d (D.ints IntKind.i64 []), O.d (D.recs Try.prog.types[(45 : Nat)].size (0 : Nat) fun (x x_1 : Nat) => D.v undef)], O.d (D.recs Try.prog.types[(9 : Nat)].size (1 : Nat) fun (i j : Nat) => [D.v (Value.string (ByteArray.mk #[(97 : UInt8)]))].getD (i * Try.prog.types[(9 : Nat)].size + j) (D.v undef)), O.d (D.ints IntKind.i64 []), O.agg [O.d (D.v (Value.bool true)), O.d (D.v (Value.bool false)), O.d (D.v (Value.bool false)), O.d (D.v (Value.bool false)), O.d (D.v (Value.int IntKind.u32 (9300 : Int))), O.d (D.v (Value.int IntKind.u32 (0 : Int))), O.d (D.v (Value.int IntKind.u32 (0 : Int))), O.d (D.v (Value.int IntKind.u32 (0 : Int))), O.d (D.recs (5 : Nat) (1 : Nat) (avpCell (reqF (vs (D.v (Value.string (ByteArray.mk #[(114 : UInt8)])))) (vs (D.v (Value.string (ByteArray.mk #[])))) y)))], O.d (D.v (Value.int IntKind.i64 (-2 : Int)))] = [O.agg [O.d (D.v (Value.string n.host)), O.d (D.v (Value.string n.realm)), O.d (D.v (Value.bool n.serves)), O.d (D.ints IntKind.i64 n.peers), O.d R], O.d N, O.d (D.ints IntKind.i64 up), O.agg [O.d (D.v (Value.bool m.b0)), O.d (D.v (Value.bool m.b1)), O.d (D.v (Value.bool m.b2)), O.d (D.v (Value.bool m.b3)), O.d (D.v (Value.int IntKind.u32 m.n0)), O.d (D.v (Value.int IntKind.u32 m.n1)), O.d (D.v (Value.int IntKind.u32 m.n2)), O.d (D.v (Value.int IntKind.u32 m.n3)), O.d A], O.d (D.v (Value.int IntKind.i64 fr))] ∧
  (small n.peers.length ∧ small names.length ∧ small up.length ∧ okAvps m.avps) ∧ okNd n ∧ asRts R n.routes ∧ asStrs N names ∧ asAvps A m.avps) ∧ True ∧ (allT [decide (y_1.fst = (-1 : Int))] →
  SV.c (Value.int IntKind.i64 y_1.snd) = SV.c (Value.int IntKind.i64 y_1.snd)) ∧ (allT [decide (y_1.fst = (-1 : Int))] → [decide (y_1.fst = (-1 : Int))] = [decide (y_1.fst = (-1 : Int))] ∧
  True ∧ SV.c (Value.bool (decide (y_1.snd = (0 : Int)))) = SV.c (Value.bool (decide (y_1.snd = (0 : Int))))) ∧ [decide (y_1.fst = (-1 : Int))] = [decide (y_1.fst = (-1 : Int))] ∧
  (decide (y_1.fst = (-1 : Int)) && decide (y_1.snd = (0 : Int))) = true ∧ (true && true) = true) ∧ True) ∧ True) ∧ ((∃ (r : ByteArray), ∃ (h : ByteArray), ∃ (B : D), ∃ (b : List ByteArray), [O.d (D.v (Value.string (ByteArray.mk #[(114 : UInt8)]))), O.d (D.v (Value.string (ByteArray.mk #[]))), O.d (D.recs Try.prog.types[(9 : Nat)].size (0 : Nat) fun (x x_1 : Nat) => D.v undef)] = [O.d (D.v (Value.string r)), O.d (D.v (Value.string h)), O.d B] ∧
  small b.length ∧ asStrs B b) ∧ (((∃ (n : NdR), ∃ (names : List ByteArray), ∃ (up : List Int), ∃ (m : MsgR), ∃ (fr : Int), ∃ (R : D), ∃ (N : D), ∃ (A : D), [O.agg [O.d (D.v (Value.string (ByteArray.mk #[(97 : UInt8)]))), O.d (D.v (Value.string (ByteArray.mk #[(114 : UInt8)]))), O.d (D.v (Value.bool true)), O.d (D.ints IntKind.i64 []), O.d (D.recs Try.prog.types[(45 : Nat)].size (0 : Nat) fun (x x_1 : Nat) => D.v undef)], O.d (D.recs Try.prog.types[(9 : Nat)].size (1 : Nat) fun (i j : Nat) => [D.v (Value.string (ByteArray.mk #[(97 : UInt8)]))].getD (i * Try.prog.types[(9 : Nat)].size + j) (D.v undef)), O.d (D.ints IntKind.i64 []), O.agg [O.d (D.v (Value.bool true)), O.d (D.v (Value.bool false)), O.d (D.v (Value.bool false)), O.d (D.v (Value.bool false)), O.d (D.v (Value.int IntKind.u32 (9300 : Int))), O.d (D.v (Value.int IntKind.u32 (0 : Int))), O.d (D.v (Value.int IntKind.u32 (0 : Int))), O.d (D.v (Value.int IntKind.u32 (0 : Int))), O.d (D.recs (5 : Nat) (1 : Nat) (avpCell (reqF (vs (D.v (Value.string (ByteArray.mk #[(114 : UInt8)])))) (vs (D.v (Value.string (ByteArray.mk #[])))) y)))], O.d (D.v (Value.int IntKind.i64 (-2 : Int)))] = [O.agg [O.d (D.v (Value.string n.host)), O.d (D.v (Value.string n.realm)), O.d (D.v (Value.bool n.serves)), O.d (D.ints IntKind.i64 n.peers), O.d R], O.d N, O.d (D.ints IntKind.i64 up), O.agg [O.d (D.v (Value.bool m.b0)), O.d (D.v (Value.bool m.b1)), O.d (D.v (Value.bool m.b2)), O.d (D.v (Value.bool m.b3)), O.d (D.v (Value.int IntKind.u32 m.n0)), O.d (D.v (Value.int IntKind.u32 m.n1)), O.d (D.v (Value.int IntKind.u32 m.n2)), O.d (D.v (Value.int IntKind.u32 m.n3)), O.d A], O.d (D.v (Value.int IntKind.i64 fr))] ∧
  (small n.peers.length ∧ small names.length ∧ small up.length ∧ okAvps m.avps) ∧ okNd n ∧ asRts R n.routes ∧ asStrs N names ∧ asAvps A m.avps) ∧ True ∧ (allT [decide (y_1.fst = (-1 : Int))] →
  SV.c (Value.int IntKind.i64 y_1.snd) = SV.c (Value.int IntKind.i64 y_1.snd)) ∧ (allT [decide (y_1.fst = (-1 : Int))] → [decide (y_1.fst = (-1 : Int))] = [decide (y_1.fst = (-1 : Int))] ∧
  True ∧ SV.c (Value.bool (decide (y_1.snd = (0 : Int)))) = SV.c (Value.bool (decide (y_1.snd = (0 : Int))))) ∧ [decide (y_1.fst = (-1 : Int))] = [decide (y_1.fst = (-1 : Int))] ∧
  (decide (y_1.fst = (-1 : Int)) && decide (y_1.snd = (0 : Int))) = true ∧ (true && true) = true) ∧ True) ∧ True) ∧ True := by
  simp only [size9, vs, strsOf_nil, req_one, pickA, vb, vl, vi, rtsOf_nil, strsOf_one, avpsOf_one, Nat.zero_mul, Nat.zero_add, List.getD_cons_zero, ans_pick, true_and, and_true, implies_true, decide_true, Bool.and_self]
  have h1 : ∃ (r h : ByteArray) (B : D) (b : List ByteArray), [O.d (D.v (Value.string (ByteArray.mk #[(114 : UInt8)]))), O.d (D.v (Value.string (ByteArray.mk #[]))), O.d (D.recs 1 (0 : Nat) fun (_ _ : Nat) => D.v undef)] = [O.d (D.v (Value.string r)), O.d (D.v (Value.string h)), O.d B] ∧ small b.length ∧ asStrs B b :=
    ⟨_, _, _, [], rfl, Nat.zero_le _, asStrs_nil⟩
  have hm : okMay ⟨⟨#[97]⟩, ⟨#[114]⟩, true, [], []⟩ [⟨#[97]⟩] [] ⟨true, false, false, false, 9300, 0, 0, 0, [reqAvp 283 ⟨#[114]⟩]⟩ :=
    ⟨Nat.zero_le _, by unfold small; decide, Nat.zero_le _, by unfold small; decide, fun a ha => by
      obtain rfl := List.mem_singleton.1 ha
      unfold small; decide⟩
  have hn : okNd ⟨⟨#[97]⟩, ⟨#[114]⟩, true, [], []⟩ := ⟨Nat.zero_le _, fun r hr => by cases hr⟩
  refine ⟨⟨h1, ?_⟩, h1, ?_⟩
  · exact ⟨⟨⟨#[97]⟩, ⟨#[114]⟩, true, [], []⟩, [⟨#[97]⟩], [], ⟨true, false, false, false, 9300, 0, 0, 0, [reqAvp 283 ⟨#[114]⟩]⟩, -2, _, _, _, rfl, hm, hn, asRts_nil, asStrs_one _, asAvps_self [reqAvp 283 ⟨#[114]⟩]⟩
  · exact ⟨⟨⟨#[97]⟩, ⟨#[114]⟩, true, [], []⟩, [⟨#[97]⟩], [], ⟨true, false, false, false, 9300, 0, 0, 0, [reqAvp 283 ⟨#[114]⟩]⟩, -2, _, _, _, rfl, hm, hn, asRts_nil, asStrs_one _, asAvps_self [reqAvp 283 ⟨#[114]⟩]⟩
set_option maxRecDepth 100000 in
theorem ok11 : FnIs Try.prog 11 answersC := by
  refine fnIs (C := ctrs b11) (by kernel_rfl) b11_ok Try.func11 (code := code11) (by kernel_rfl) (by kernel_rfl) ?_
  rintro a rfl
  exact ⟨anns [], kcast (vc11) (by kernel_rfl)⟩

end Go.YR
