/- Part 18 of what the closing text rests on. -/
import Derived.Test.YtlbfenfepmmihaaV17
import Derived.Test.YtlbfenfepmmihaaRows
namespace Go.ZR
open Go.Proofs
open Go.Z Go.ZM Go.RowKit
set_option maxRecDepth 100000
theorem e7_ok : COk Try.prog (ctrs e7) := cok_cons (ok142a.eith ok142b) cok_nil
noncomputable def code103 : Code := match Try.f103.body with | some c => c | none => .skip
set_option maxHeartbeats 4000000 in
theorem vc103 : True ∧ ((0 : Int) ≤ (0 : Int) ∧ (0 : Int) < (↑(1 : Nat) : Int)) ∧ True ∧ True ∧ True ∧ True ∧ [decide ((283 : Int) = (282 : Int))] = [decide ((283 : Int) = (282 : Int))] ∧
  True ∧ True ∧ (((293 : Int) == (283 : Int)) = true ∧ [O.agg [O.d (D.v (Value.bool true)), O.d (D.v (Value.bool false)), O.d (D.v (Value.bool false)), O.d (D.v (Value.bool false)), O.d (D.v (Value.int IntKind.u32 (9300 : Int))), O.d (D.v (Value.int IntKind.u32 (0 : Int))), O.d (D.v (Value.int IntKind.u32 (0 : Int))), O.d (D.v (Value.int IntKind.u32 (0 : Int))), O.d (D.recs (5 : Nat) (1 : Nat) rqCell)], O.d (D.v (Value.int IntKind.u32 (293 : Int)))] = [O.agg [O.d (D.v (Value.bool true)), O.d (D.v (Value.bool false)), O.d (D.v (Value.bool false)), O.d (D.v (Value.bool false)), O.d (D.v (Value.int IntKind.u32 (9300 : Int))), O.d (D.v (Value.int IntKind.u32 (0 : Int))), O.d (D.v (Value.int IntKind.u32 (0 : Int))), O.d (D.v (Value.int IntKind.u32 (0 : Int))), O.d (D.recs (5 : Nat) (1 : Nat) rqCell)], O.d (D.v (Value.int IntKind.u32 (283 : Int)))] ∨ ((293 : Int) == (283 : Int)) = false ∧
  [O.agg [O.d (D.v (Value.bool true)), O.d (D.v (Value.bool false)), O.d (D.v (Value.bool false)), O.d (D.v (Value.bool false)), O.d (D.v (Value.int IntKind.u32 (9300 : Int))), O.d (D.v (Value.int IntKind.u32 (0 : Int))), O.d (D.v (Value.int IntKind.u32 (0 : Int))), O.d (D.v (Value.int IntKind.u32 (0 : Int))), O.d (D.recs (5 : Nat) (1 : Nat) rqCell)], O.d (D.v (Value.int IntKind.u32 (293 : Int)))] = [O.agg [O.d (D.v (Value.bool true)), O.d (D.v (Value.bool false)), O.d (D.v (Value.bool false)), O.d (D.v (Value.bool false)), O.d (D.v (Value.int IntKind.u32 (9300 : Int))), O.d (D.v (Value.int IntKind.u32 (0 : Int))), O.d (D.v (Value.int IntKind.u32 (0 : Int))), O.d (D.v (Value.int IntKind.u32 (0 : Int))), O.d (D.recs (5 : Nat) (1 : Nat) rqCell)], O.d (D.v (Value.int IntKind.u32 (293 : Int)))]) ∧
  (((283 : Int) == (283 : Int)) = true ∧ [O.agg [O.d (D.v (Value.bool true)), O.d (D.v (Value.bool false)), O.d (D.v (Value.bool false)), O.d (D.v (Value.bool false)), O.d (D.v (Value.int IntKind.u32 (9300 : Int))), O.d (D.v (Value.int IntKind.u32 (0 : Int))), O.d (D.v (Value.int IntKind.u32 (0 : Int))), O.d (D.v (Value.int IntKind.u32 (0 : Int))), O.d (D.recs (5 : Nat) (1 : Nat) rqCell)], O.d (D.v (Value.int IntKind.u32 (283 : Int)))] = [O.agg [O.d (D.v (Value.bool true)), O.d (D.v (Value.bool false)), O.d (D.v (Value.bool false)), O.d (D.v (Value.bool false)), O.d (D.v (Value.int IntKind.u32 (9300 : Int))), O.d (D.v (Value.int IntKind.u32 (0 : Int))), O.d (D.v (Value.int IntKind.u32 (0 : Int))), O.d (D.v (Value.int IntKind.u32 (0 : Int))), O.d (D.recs (5 : Nat) (1 : Nat) rqCell)], O.d (D.v (Value.int IntKind.u32 (283 : Int)))] ∨ ((283 : Int) == (283 : Int)) = false ∧
  [O.agg [O.d (D.v (Value.bool true)), O.d (D.v (Value.bool false)), O.d (D.v (Value.bool false)), O.d (D.v (Value.bool false)), O.d (D.v (Value.int IntKind.u32 (9300 : Int))), O.d (D.v (Value.int IntKind.u32 (0 : Int))), O.d (D.v (Value.int IntKind.u32 (0 : Int))), O.d (D.v (Value.int IntKind.u32 (0 : Int))), O.d (D.recs (5 : Nat) (1 : Nat) rqCell)], O.d (D.v (Value.int IntKind.u32 (283 : Int)))] = [O.agg [O.d (D.v (Value.bool true)), O.d (D.v (Value.bool false)), O.d (D.v (Value.bool false)), O.d (D.v (Value.bool false)), O.d (D.v (Value.int IntKind.u32 (9300 : Int))), O.d (D.v (Value.int IntKind.u32 (0 : Int))), O.d (D.v (Value.int IntKind.u32 (0 : Int))), O.d (D.v (Value.int IntKind.u32 (0 : Int))), O.d (D.recs (5 : Nat) (1 : Nat) rqCell)], O.d (D.v (Value.int IntKind.u32 (293 : Int)))]) ∧
  True ∧ SV.c (Value.bool false) = SV.c (Value.bool false) ∧ ([decide ((bstr [(114 : Int)]).data.toList = #[(114 : UInt8)].toList)] = [decide ((bstr [(114 : Int)]).data.toList = #[(114 : UInt8)].toList)] ∧
  SV.c (Value.bool !false) = SV.c (Value.bool !false)) ∧ [decide ((bstr [(114 : Int)]).data.toList = #[(114 : UInt8)].toList)] = [decide ((bstr [(114 : Int)]).data.toList = #[(114 : UInt8)].toList)] ∧
  SV.p (5 : Nat) (2 : Nat) = SV.p (5 : Nat) (2 : Nat) ∧ ([decide ((bstr [(114 : Int)]).data.toList = #[(114 : UInt8)].toList) && !false] = [decide ((bstr [(114 : Int)]).data.toList = #[(114 : UInt8)].toList) && !false] ∧
  SV.c (Value.bool true) = SV.c (Value.bool true)) ∧ [decide ((bstr [(114 : Int)]).data.toList = #[(114 : UInt8)].toList) && !false] = [decide ((bstr [(114 : Int)]).data.toList = #[(114 : UInt8)].toList) && !false] ∧
  (-1 : Int) = (-1 : Int) ∧ (0 : Int) = (0 : Int) ∧ (true && true) = true := by
  simp only [↓Bool.and_eq_true, true_and, and_true, Bool.not_false, Bool.and_true]
  exact ⟨by omega, .inr (by decide), .inl (by decide)⟩
set_option maxRecDepth 100000 in
theorem ok103 : FnIs Try.prog 103 pickC1 := by
  refine fnIs (C := (ctrs e7)) (by kernel_rfl) e7_ok Try.func103 (code := code103) (by kernel_rfl) (by kernel_rfl) ?_
  rintro a rfl
  exact ⟨anns [] [] [(3, 2)], kcast (vc103) (by kernel_rfl)⟩

theorem e8_ok : COk Try.prog (ctrs e8) := cok_cons ok103 (cok_cons ok104 cok_nil)

noncomputable def code56 : Code := match Try.f56.body with | some c => c | none => .skip
set_option maxHeartbeats 4000000 in
theorem vc56 : (([O.d (D.v (Value.string (ByteArray.mk #[(114 : UInt8)]))), O.d (D.v (Value.string (ByteArray.mk #[]))), O.d (D.recs Try.prog.types[(9 : Nat)].size (0 : Nat) fun (_x _x_1 : Nat) => D.v undef)] = [O.d (D.v (Value.string (ByteArray.mk #[(114 : UInt8)]))), O.d (D.v (Value.string (ByteArray.mk #[]))), O.d (D.recs (1 : Nat) (0 : Nat) fun (_x _x_1 : Nat) => D.v undef)] ∧
  ([O.agg [O.d (D.v (Value.string (ByteArray.mk #[(97 : UInt8)]))), O.d (D.v (Value.string (ByteArray.mk #[(114 : UInt8)]))), O.d (D.v (Value.bool true)), O.d (D.ints IntKind.i64 []), O.d (D.recs Try.prog.types[(258 : Nat)].size (0 : Nat) fun (_x _x_1 : Nat) => D.v undef)], O.d (D.recs Try.prog.types[(9 : Nat)].size (1 : Nat) fun (i j : Nat) => [D.v (Value.string (ByteArray.mk #[(97 : UInt8)]))].getD (i * Try.prog.types[(9 : Nat)].size + j) (D.v undef)), O.d (D.ints IntKind.i64 []), O.agg [O.d (D.v (Value.bool true)), O.d (D.v (Value.bool false)), O.d (D.v (Value.bool false)), O.d (D.v (Value.bool false)), O.d (D.v (Value.int IntKind.u32 (9300 : Int))), O.d (D.v (Value.int IntKind.u32 (0 : Int))), O.d (D.v (Value.int IntKind.u32 (0 : Int))), O.d (D.v (Value.int IntKind.u32 (0 : Int))), O.d (D.recs (5 : Nat) (1 : Nat) rqCell)], O.d (D.v (Value.int IntKind.i64 (-2 : Int)))] = [O.agg [O.d (D.v (Value.string (ByteArray.mk #[(97 : UInt8)]))), O.d (D.v (Value.string (ByteArray.mk #[(114 : UInt8)]))), O.d (D.v (Value.bool true)), O.d (D.ints IntKind.i64 []), O.d (D.recs (2 : Nat) (0 : Nat) fun (_x _x_1 : Nat) => D.v undef)], O.d (D.recs (1 : Nat) (1 : Nat) fun (i j : Nat) => [D.v (Value.string (ByteArray.mk #[(97 : UInt8)]))].getD (i * (1 : Nat) + j) (D.v undef)), O.d (D.ints IntKind.i64 []), O.agg [O.d (D.v (Value.bool true)), O.d (D.v (Value.bool false)), O.d (D.v (Value.bool false)), O.d (D.v (Value.bool false)), O.d (D.v (Value.int IntKind.u32 (9300 : Int))), O.d (D.v (Value.int IntKind.u32 (0 : Int))), O.d (D.v (Value.int IntKind.u32 (0 : Int))), O.d (D.v (Value.int IntKind.u32 (0 : Int))), O.d (D.recs (5 : Nat) (1 : Nat) rqCell)], O.d (D.v (Value.int IntKind.i64 (-2 : Int)))] ∧
  True ∧ SV.c (Value.int IntKind.i64 (0 : Int)) = SV.c (Value.int IntKind.i64 (0 : Int)) ∧ ([decide ((-1 : Int) = (-1 : Int))] = [decide ((-1 : Int) = (-1 : Int))] ∧
  True ∧ SV.c (Value.bool (decide ((0 : Int) = (0 : Int)))) = SV.c (Value.bool (decide ((0 : Int) = (0 : Int))))) ∧ [decide ((-1 : Int) = (-1 : Int))] = [decide ((-1 : Int) = (-1 : Int))] ∧
  (decide ((-1 : Int) = (-1 : Int)) && decide ((0 : Int) = (0 : Int))) = true ∧ (true && true) = true) ∧ True) ∧ True) ∧ ([O.d (D.v (Value.string (ByteArray.mk #[(114 : UInt8)]))), O.d (D.v (Value.string (ByteArray.mk #[]))), O.d (D.recs Try.prog.types[(9 : Nat)].size (0 : Nat) fun (_x _x_1 : Nat) => D.v undef)] = [O.d (D.v (Value.string (ByteArray.mk #[(114 : UInt8)]))), O.d (D.v (Value.string (ByteArray.mk #[]))), O.d (D.recs (1 : Nat) (0 : Nat) fun (_x _x_1 : Nat) => D.v undef)] ∧
  (([O.agg [O.d (D.v (Value.string (ByteArray.mk #[(97 : UInt8)]))), O.d (D.v (Value.string (ByteArray.mk #[(114 : UInt8)]))), O.d (D.v (Value.bool true)), O.d (D.ints IntKind.i64 []), O.d (D.recs Try.prog.types[(258 : Nat)].size (0 : Nat) fun (_x _x_1 : Nat) => D.v undef)], O.d (D.recs Try.prog.types[(9 : Nat)].size (1 : Nat) fun (i j : Nat) => [D.v (Value.string (ByteArray.mk #[(97 : UInt8)]))].getD (i * Try.prog.types[(9 : Nat)].size + j) (D.v undef)), O.d (D.ints IntKind.i64 []), O.agg [O.d (D.v (Value.bool true)), O.d (D.v (Value.bool false)), O.d (D.v (Value.bool false)), O.d (D.v (Value.bool false)), O.d (D.v (Value.int IntKind.u32 (9300 : Int))), O.d (D.v (Value.int IntKind.u32 (0 : Int))), O.d (D.v (Value.int IntKind.u32 (0 : Int))), O.d (D.v (Value.int IntKind.u32 (0 : Int))), O.d (D.recs (5 : Nat) (1 : Nat) rqCell)], O.d (D.v (Value.int IntKind.i64 (-2 : Int)))] = [O.agg [O.d (D.v (Value.string (ByteArray.mk #[(97 : UInt8)]))), O.d (D.v (Value.string (ByteArray.mk #[(114 : UInt8)]))), O.d (D.v (Value.bool true)), O.d (D.ints IntKind.i64 []), O.d (D.recs (2 : Nat) (0 : Nat) fun (_x _x_1 : Nat) => D.v undef)], O.d (D.recs (1 : Nat) (1 : Nat) fun (i j : Nat) => [D.v (Value.string (ByteArray.mk #[(97 : UInt8)]))].getD (i * (1 : Nat) + j) (D.v undef)), O.d (D.ints IntKind.i64 []), O.agg [O.d (D.v (Value.bool true)), O.d (D.v (Value.bool false)), O.d (D.v (Value.bool false)), O.d (D.v (Value.bool false)), O.d (D.v (Value.int IntKind.u32 (9300 : Int))), O.d (D.v (Value.int IntKind.u32 (0 : Int))), O.d (D.v (Value.int IntKind.u32 (0 : Int))), O.d (D.v (Value.int IntKind.u32 (0 : Int))), O.d (D.recs (5 : Nat) (1 : Nat) rqCell)], O.d (D.v (Value.int IntKind.i64 (-2 : Int)))] ∧
  True ∧ SV.c (Value.int IntKind.i64 (0 : Int)) = SV.c (Value.int IntKind.i64 (0 : Int)) ∧ ([decide ((-1 : Int) = (-1 : Int))] = [decide ((-1 : Int) = (-1 : Int))] ∧
  True ∧ SV.c (Value.bool (decide ((0 : Int) = (0 : Int)))) = SV.c (Value.bool (decide ((0 : Int) = (0 : Int))))) ∧ [decide ((-1 : Int) = (-1 : Int))] = [decide ((-1 : Int) = (-1 : Int))] ∧
  (decide ((-1 : Int) = (-1 : Int)) && decide ((0 : Int) = (0 : Int))) = true ∧ (true && true) = true) ∧ True) ∧ True) ∧ True := by
  simp only [↓Bool.and_eq_true, ↓decide_eq_true_eq, and_true, Nat.mul_one]
  have h9 : Try.prog.types[(9 : Nat)].size = 1 := by kernel_rfl
  have h258 : Try.prog.types[(258 : Nat)].size = 2 := by kernel_rfl
  simp only [h9, h258, Nat.mul_one]
  exact ⟨⟨trivial, trivial⟩, trivial, trivial⟩
set_option maxRecDepth 100000 in
theorem ok56 : FnIs Try.prog 56 ansRC := by
  refine fnIs (C := (ctrs e8)) (by kernel_rfl) e8_ok Try.func56 (code := code56) (by kernel_rfl) (by kernel_rfl) ?_
  rintro a rfl
  exact ⟨anns [], kcast (vc56) (by kernel_rfl)⟩

end Go.ZR

set_option maxRecDepth 100000
namespace Go.ZM
open Go.Z
def rfK (n : Nat) : List Int := (List.range n).map fun (i : Nat) => (i : Int) + 1
def rfL (c : Int) (n : Nat) : List Ent := (List.range n).map fun (i : Nat) => ⟨(i : Int), c, (i : Int) + 1, 1⟩
def markF (f : Nat → Nat → D) : Nat → Nat → D := fun i j => bif Nat.beq j 15 then .v (.bool true) else f i j
theorem entsOf_M (l : List Ent) : entsOf l.length (markF (entF l)) = l := (show entsOf l.length (markF (entF l)) = entsOf l.length (entF l) from rfl).trans (entsOf_F l)
end Go.ZM
namespace Go.ZR
open Go.Z Go.ZM Go.Proofs
def isBk (a : List O) : Bool := match at_ a 0 with
  | .ptr _ _ => true
  | _ => false
def isV (a : List O) : Bool := match at_ a 1 with
  | .agg [_, _, _, _, _, _, _, _, _, _, _, _, _, .rsl _ _ _] => true
  | _ => false
def bkF : O → Nat → Nat → D
  | .ptr _ (.mapR _ _ f :: _) => f
  | _ => undefF
def isM (a : List O) : Bool := match bkF (bk0 a) 0 15 with
  | .v (.bool true) => true
  | _ => false
def mkM (f : Nat → Nat → D) : Nat → Nat → D := fun i j => bif Nat.beq j 15 then .v (.bool true) else f i j
def bkM (ks : List Int) (l : List Ent) (last turn : Int) : O := bkR ks (mkM (entF l)) last turn
def addFC : Ctr := ow [true, true] (fun a => ∃ ks l last turn, a = [bkO ks l last turn, wtN 0] ∧ 256 ≤ ks.length ∧ okB ks l last turn) (fun _ => [iO .u32 0, iO .i64 10]) fun a => [bkO (bkK (bk0 a)) (bkE (bk0 a)) (bkL (bk0 a)) (bkT (bk0 a)), .any]
def addMC : Ctr := ow [true, true] (fun a => ∃ ks l last turn, a = [bkM ks l last turn, wtN 0] ∧ ks.length < 256 ∧ (last + 1) ∉ ks ∧ okB ks l last turn) (fun a => [iO .u32 (bkL (bk0 a) + 1), iO .i64 0]) fun _ => [.any, .any]
def take1M : Ctr := ow [true, false, false, false] (fun a => ∃ ks l last turn h t, a = [bkO ks l last turn, iO .u32 h, iO .i64 t, iO .u32 0] ∧ (∃ j, midx ks h = some j ∧ (l.getD j noEnt).t = t ∧ (l.getD j noEnt).k = 1) ∧ okB ks l last turn)
  (fun a => [wtR (vi (dO (at_ a 2))) ((bkE (bk0 a)).getD (hk a) noEnt).c, iO .i64 0])
  fun a => [bkM ((bkK (bk0 a)).eraseIdx (hk a)) ((bkE (bk0 a)).eraseIdx (hk a)) (bkL (bk0 a)) (bkT (bk0 a)), .any, .any, .any]
def take0M : Ctr := ow [true, false, false, false] (fun a => ∃ ks l last turn h t, a = [bkM ks l last turn, iO .u32 h, iO .i64 t, iO .u32 0] ∧ h ∉ ks ∧ okB ks l last turn) (fun _ => [wtN 0, iO .i64 8])
  fun a => [bkM (bkK (bk0 a)) (bkE (bk0 a)) (bkL (bk0 a)) (bkT (bk0 a)), .any, .any, .any]
def addT : Ctr := Ctr.eith isBk (Ctr.eith isV addAC (Ctr.eith isM addMC addFC)) addNC
def takeT : Ctr := Ctr.eith isBk (Ctr.eith isM take0M take1M) takeNC
def e9 : List (Nat × Ctr) := [(5, slC 113), (53, newBC), (54, addT), (55, takeT), (56, ansRC), (57, failNC), (58, failNC), (59, lenNC)]
def rfC : Ctr := nC 2 false (fun a => ∃ c g : Int, a = [iO .u8 c, iO .u8 g] ∧ (0 ≤ c ∧ c ≤ 255) ∧ (0 ≤ g ∧ g ≤ 255)) fun _ => [bO true]
def rfA (c : Int) : LoopAnn where
  γ := Nat
  pre := fun n => n ≤ 256
  μ := fun n => 256 - n
  items := fun n => [(13, .c (iO .i64 (n : Int))), (5, .c (bkO (rfK n) (rfL c n) n n)), (11, .c (.own 5 (.ints .u8 [c]))), (12, .c (.own 22 (.ints .u32 (rfK n))))]
end Go.ZR

namespace Go.ZR
open Go.Proofs
open Go.Z Go.ZM Go.RowKit
set_option maxRecDepth 100000
noncomputable def code54f : Code := match Try.f54.body with | some c => c | none => .skip
set_option maxHeartbeats 4000000 in
theorem vc54f : ∀ (ks : List Int) (l : List Ent) (last turn : Int), (256 : Nat) ≤ ks.length → l.length = ks.length ∧ ((0 : Int) ≤ last ∧ last < (4294967295 : Int)) ∧ (0 : Int) ≤ turn ∧
  turn ≤ (1099511627776 : Int) → True ∧ sw (decide ((256 : Int) ≤ (↑ks.length : Int))) (ks = ks ∧ (∀ (i : Nat), i < ks.length → ∀ (j : Nat), j < (15 : Nat) →
  entF l i j = entF (entsOf ks.length (entF l)) i j) ∧ last = last ∧ turn = turn ∧ (0 : Int) = (0 : Int) ∧ (10 : Int) = (10 : Int) ∧ (!(Nat.beq (0 : Nat) (1 : Nat) || false) && (!false && true) && true) = true) False := by
  simp only [↓sw_iff, ↓Bool.and_eq_true, ↓decide_eq_true_eq, ↓decide_eq_false_iff_not, ↓Bool.not_eq_true', true_and, and_true, Bool.or_false, Nat.beq]
  intro ks l last turn hk hb
  rw [← hb.1, entsOf_F]
  refine ⟨fun _ => fun i _ j _ => rfl, fun h => ?_⟩
  have := hb.1
  omega
set_option maxRecDepth 100000 in
theorem ok54f : FnIs Try.prog 54 addFC := by
  refine fnIs (C := (ctrs c0)) (by kernel_rfl) c0_ok Try.func54 (code := code54f) (by kernel_rfl) (by kernel_rfl) ?_
  rintro a ⟨ks, l, last, turn, rfl, hk, h⟩
  exact ⟨anns [], kcast (vc54f ks l last turn hk h) (by kernel_rfl)⟩

noncomputable def code54m : Code := match Try.f54.body with | some c => c | none => .skip
set_option maxHeartbeats 4000000 in
theorem vc54m : ∀ (ks : List Int) (l : List Ent) (last turn : Int), ks.length < (256 : Nat) → ¬last + (1 : Int) ∈ ks → l.length = ks.length ∧ ((0 : Int) ≤ last ∧ last < (4294967295 : Int)) ∧
  (0 : Int) ≤ turn ∧ turn ≤ (1099511627776 : Int) → True ∧ sw (decide ((256 : Int) ≤ (↑ks.length : Int))) ((0 : Int) = last + (1 : Int) ∧ (10 : Int) = (0 : Int) ∧
  (true && true) = true) (True ∧ (midx ks (IntKind.u32.wrap (last + (1 : Int))) = none → True ∧ sw (decide (IntKind.u32.wrap (last + (1 : Int)) = (0 : Int))) (True ∧
  (midx ks (IntKind.u32.wrap (IntKind.u32.wrap (last + (1 : Int)) + (1 : Int))) = none → False) ∧ ∀ (j : Nat), midx ks (IntKind.u32.wrap (IntKind.u32.wrap (last + (1 : Int)) + (1 : Int))) = some j →
  False) (True ∧ ([O.agg [O.d (D.v (Value.int IntKind.i64 (0 : Int))), O.d (D.v (Value.int IntKind.u32 (0 : Int))), O.d (D.v (Value.int IntKind.i64 (0 : Int))), O.d (D.v (Value.int IntKind.i64 (0 : Int))), O.d (D.v (Value.int IntKind.i64 (0 : Int))), O.d (D.v (Value.bool false)), O.d (D.v (Value.bool false)), O.d (D.v (Value.bool false)), O.d (D.v (Value.bool false)), O.d (D.v (Value.int IntKind.u32 (0 : Int))), O.d (D.v (Value.int IntKind.u32 (0 : Int))), O.d (D.v (Value.int IntKind.u32 (0 : Int))), O.d (D.v (Value.int IntKind.u32 (0 : Int))), O.d (D.recs (5 : Nat) (0 : Nat) fun (_x _x_1 : Nat) => D.v undef)]] = [O.agg [O.d (D.v (Value.int IntKind.i64 (0 : Int))), O.d (D.v (Value.int IntKind.u32 (0 : Int))), O.d (D.v (Value.int IntKind.i64 (0 : Int))), O.d (D.v (Value.int IntKind.i64 (0 : Int))), O.d (D.v (Value.int IntKind.i64 (0 : Int))), O.d (D.v (Value.bool false)), O.d (D.v (Value.bool false)), O.d (D.v (Value.bool false)), O.d (D.v (Value.bool false)), O.d (D.v (Value.int IntKind.u32 (0 : Int))), O.d (D.v (Value.int IntKind.u32 (0 : Int))), O.d (D.v (Value.int IntKind.u32 (0 : Int))), O.d (D.v (Value.int IntKind.u32 (0 : Int))), O.d (D.recs (5 : Nat) (0 : Nat) fun (_x _x_1 : Nat) => D.v undef)]] ∧
  (IntKind.u32.wrap (last + (1 : Int)) = last + (1 : Int) ∧ (0 : Int) = (0 : Int) ∧ (true && true) = true) ∧ True) ∧ True)) ∧ ∀ (j : Nat), midx ks (IntKind.u32.wrap (last + (1 : Int))) = some j →
  True ∧ (midx ks (IntKind.u32.wrap (IntKind.u32.wrap (last + (1 : Int)) + (1 : Int))) = none → False) ∧ ∀ (j_1 : Nat), midx ks (IntKind.u32.wrap (IntKind.u32.wrap (last + (1 : Int)) + (1 : Int))) = some j_1 →
  False) := by
  simp only [↓sw_iff, ↓Bool.and_eq_true, ↓decide_eq_true_eq, ↓decide_eq_false_iff_not, true_and, and_true]
  intro ks l last turn hk hn hb
  have w1 : IntKind.u32.wrap (last + 1) = last + 1 := by rw [IntKind.wrap_u32]; have := hb.2.1; omega
  have hm : midx ks (last + 1) = none := mid_none.2 hn
  rw [w1, hm]
  have h2 := hb.2.1
  exact ⟨fun h => by omega, fun _ => ⟨fun _ => ⟨fun h => by omega, fun _ => rfl⟩, fun j h => by cases h⟩⟩
set_option maxRecDepth 100000 in
theorem ok54m : FnIs Try.prog 54 addMC := by
  refine fnIs (C := (ctrs e3)) (by kernel_rfl) e3_ok Try.func54 (code := code54m) (by kernel_rfl) (by kernel_rfl) ?_
  rintro a ⟨ks, l, last, turn, rfl, hk, hn, h⟩
  exact ⟨anns [] [] [(6, 2)], kcast (vc54m ks l last turn hk hn h) (by kernel_rfl)⟩

noncomputable def code55a : Code := match Try.f55.body with | some c => c | none => .skip
set_option maxHeartbeats 4000000 in
theorem vc55a : ∀ (ks : List Int) (l : List Ent) (last turn h t : Int), (∃ (j : Nat), midx ks h = some j ∧ (l.getD j noEnt).t = t ∧ (l.getD j noEnt).k = (1 : Nat)) → l.length = ks.length ∧
  ((0 : Int) ≤ last ∧ last < (4294967295 : Int)) ∧ (0 : Int) ≤ turn ∧ turn ≤ (1099511627776 : Int) → (midx ks h = none → ks = ks.eraseIdx ((midx ks h).getD (0 : Nat)) ∧
  (∀ (i : Nat), i < ks.length → ∀ (j : Nat), j < (15 : Nat) → entF l i j = bif j.beq (15 : Nat) then D.v (Value.bool true) else entF ((entsOf ks.length (entF l)).eraseIdx ((midx ks h).getD (0 : Nat))) i j) ∧
  last = last ∧ turn = turn ∧ (0 : Int) = (0 : Int) ∧ (0 : Int) = (0 : Int) ∧ (0 : Int) = t ∧ (0 : Int) = (0 : Int) ∧ (0 : Int) = (0 : Int) ∧ false = false ∧
  false = false ∧ false = false ∧ false = false ∧ (0 : Int) = (0 : Int) ∧ (0 : Int) = (0 : Int) ∧ (0 : Int) = (0 : Int) ∧ (0 : Int) = (0 : Int) ∧ (1 : Nat) = (0 : Nat) ∧
  (8 : Int) = (0 : Int) ∧ (!(Nat.beq (0 : Nat) (1 : Nat) || false) && (!false && true) && true) = true) ∧ ∀ (j : Nat), midx ks h = some j → True ∧ sw (!!decide ((l.getD j noEnt).t = t)) (SV.p (4 : Nat) (0 : Nat) = SV.p (4 : Nat) (0 : Nat)) True ∧
  sw (!!decide ((l.getD j noEnt).t = t)) ([!!decide ((l.getD j noEnt).t = t)] = [!!decide ((l.getD j noEnt).t = t)] ∧ SV.p (4 : Nat) (5 : Nat) = SV.p (4 : Nat) (5 : Nat)) True ∧
  sw (!!decide ((l.getD j noEnt).t = t)) ([!!decide ((l.getD j noEnt).t = t)] = [!!decide ((l.getD j noEnt).t = t)] ∧ SV.p (4 : Nat) (12 : Nat) = SV.p (4 : Nat) (12 : Nat)) True ∧
  sw (!!decide ((l.getD j noEnt).t = t)) ([!!decide ((l.getD j noEnt).t = t)] = [!!decide ((l.getD j noEnt).t = t)] ∧ SV.c (Value.int IntKind.u32 (0 : Int)) = SV.c (Value.int IntKind.u32 (0 : Int))) True ∧
  sw (!!decide ((l.getD j noEnt).t = t)) (SV.c (Value.int IntKind.u32 (0 : Int)) = SV.c (Value.int IntKind.u32 (0 : Int))) True ∧ sw (!!decide ((l.getD j noEnt).t = t)) ([!!decide ((l.getD j noEnt).t = t)] = [!!decide ((l.getD j noEnt).t = t)] ∧
  [!!decide ((l.getD j noEnt).t = t)] = [!!decide ((l.getD j noEnt).t = t)] ∧ True ∧ SV.c (Value.bool !decide ((0 : Int) = (0 : Int))) = SV.c (Value.bool !decide ((0 : Int) = (0 : Int)))) True ∧
  [!!decide ((l.getD j noEnt).t = t)] = [!!decide ((l.getD j noEnt).t = t)] ∧ sw (!decide ((l.getD j noEnt).t = t) || !decide ((0 : Int) = (0 : Int))) (ks = ks.eraseIdx ((midx ks h).getD (0 : Nat)) ∧
  (∀ (i : Nat), i < ks.length → ∀ (j_1 : Nat), j_1 < (15 : Nat) → entF l i j_1 = bif j_1.beq (15 : Nat) then D.v (Value.bool true) else entF ((entsOf ks.length (entF l)).eraseIdx ((midx ks h).getD (0 : Nat))) i j_1) ∧
  last = last ∧ turn = turn ∧ (0 : Int) = (0 : Int) ∧ (0 : Int) = (0 : Int) ∧ (0 : Int) = t ∧ (0 : Int) = (0 : Int) ∧ (0 : Int) = (0 : Int) ∧ false = false ∧
  false = false ∧ false = false ∧ false = false ∧ (0 : Int) = (0 : Int) ∧ (0 : Int) = (0 : Int) ∧ (0 : Int) = (0 : Int) ∧ (0 : Int) = (0 : Int) ∧ (1 : Nat) = (0 : Nat) ∧
  (8 : Int) = (0 : Int) ∧ (!(Nat.beq (0 : Nat) (1 : Nat) || false) && (!false && true) && true) = true) (mdel ks (midx ks h) = ks.eraseIdx ((midx ks h).getD (0 : Nat)) ∧
  (∀ (i : Nat), i < (mdel ks (midx ks h)).length → ∀ (j_1 : Nat), j_1 < (15 : Nat) → (match (motive := Option Nat → Nat → Nat → D) midx ks h with | none => entF l | some j => fun (i : Nat) => entF l (bif i.blt j then i else i + (1 : Nat))) i j_1 = bif j_1.beq (15 : Nat) then D.v (Value.bool true) else entF ((entsOf ks.length (entF l)).eraseIdx ((midx ks h).getD (0 : Nat))) i j_1) ∧
  last = last ∧ turn = turn ∧ (0 : Int) = (0 : Int) ∧ (0 : Int) = (0 : Int) ∧ (l.getD j noEnt).t = t ∧ (0 : Int) = (0 : Int) ∧ (0 : Int) = (0 : Int) ∧ false = false ∧
  false = false ∧ false = false ∧ false = false ∧ (0 : Int) = (0 : Int) ∧ (0 : Int) = (0 : Int) ∧ (0 : Int) = (0 : Int) ∧ (0 : Int) = (0 : Int) ∧ ((l.getD j noEnt).k = (1 : Nat) ∧
  ∀ (i : Nat), i < (l.getD j noEnt).k → ∀ (j_1 : Nat), j_1 < (5 : Nat) → avCell (l.getD j noEnt).c i j_1 = avCell ((entsOf ks.length (entF l)).getD ((midx ks h).getD (0 : Nat)) noEnt).c i j_1) ∧
  (0 : Int) = (0 : Int) ∧ (!(Nat.beq (0 : Nat) (1 : Nat) || false) && (!false && true) && true) = true) := by
  simp only [↓sw_iff, ↓Bool.and_eq_true, ↓decide_eq_true_eq, ↓decide_eq_false_iff_not, ↓Bool.not_eq_true', ↓Bool.not_eq_false', true_and, and_true, implies_true, Bool.or_false, Nat.beq]
  intro ks l last turn h t hj hb
  obtain ⟨j, hm, ht, hk⟩ := hj
  rw [hm, ← hb.1, entsOf_F]
  refine ⟨fun h => (by cases h), fun j' hj' => ?_⟩
  cases hj'
  refine ⟨fun h => ?_, fun _ => ⟨rfl, fun i hi k hk => ?_, ht, hk, fun _ _ _ _ => rfl⟩⟩
  · exfalso
    rw [ht] at h
    simp at h
  · rw [show Nat.beq k 15 = false from by
      cases hb : Nat.beq k 15 with
      | false => rfl
      | true => exact absurd (Nat.eq_of_beq_eq_true hb) (by omega)]
    show entF l (bif i.blt j then i else i + 1) k = entF (l.eraseIdx j) i k
    unfold entF
    congr 2
    simp only [List.getD, List.getElem?_eraseIdx]
    by_cases hij : i < j
    · rw [if_pos hij, show Nat.blt i j = true from by simpa [Nat.blt_eq] using hij]; rfl
    · rw [if_neg hij, show Nat.blt i j = false from by
        cases hb : Nat.blt i j with
        | false => rfl
        | true => exact absurd (by simpa [Nat.blt_eq] using hb) hij]; rfl
set_option maxRecDepth 100000 in
theorem ok55a : FnIs Try.prog 55 take1M := by
  refine fnIs (C := (ctrs c0)) (by kernel_rfl) c0_ok Try.func55 (code := code55a) (by kernel_rfl) (by kernel_rfl) ?_
  rintro a ⟨ks, l, last, turn, h, t, rfl, hj, hb⟩
  exact ⟨anns [], kcast (vc55a ks l last turn h t hj hb) (by kernel_rfl)⟩

noncomputable def code55b : Code := match Try.f55.body with | some c => c | none => .skip
set_option maxHeartbeats 4000000 in
theorem vc55b : ∀ (ks : List Int) (l : List Ent) (last turn h t : Int), ¬h ∈ ks → l.length = ks.length ∧ ((0 : Int) ≤ last ∧ last < (4294967295 : Int)) ∧ (0 : Int) ≤ turn ∧
  turn ≤ (1099511627776 : Int) → (midx ks h = none → ks = ks ∧ (∀ (i : Nat), i < ks.length → ∀ (j : Nat), j < (15 : Nat) → (bif j.beq (15 : Nat) then D.v (Value.bool true) else entF l i j) = bif j.beq (15 : Nat) then D.v (Value.bool true) else entF (entsOf ks.length fun (i j : Nat) => bif j.beq (15 : Nat) then D.v (Value.bool true) else entF l i j) i j) ∧
  last = last ∧ turn = turn ∧ (0 : Int) = (0 : Int) ∧ (0 : Int) = (0 : Int) ∧ (0 : Int) = (0 : Int) ∧ (0 : Int) = (0 : Int) ∧ (0 : Int) = (0 : Int) ∧ false = false ∧
  false = false ∧ false = false ∧ false = false ∧ (0 : Int) = (0 : Int) ∧ (0 : Int) = (0 : Int) ∧ (0 : Int) = (0 : Int) ∧ (0 : Int) = (0 : Int) ∧ (0 : Nat) = (0 : Nat) ∧
  (8 : Int) = (8 : Int) ∧ (!(Nat.beq (0 : Nat) (1 : Nat) || false) && (!false && true) && true) = true) ∧ ∀ (j : Nat), midx ks h = some j → True ∧ sw (!!decide ((l.getD j noEnt).t = t)) (SV.p (4 : Nat) (0 : Nat) = SV.p (4 : Nat) (0 : Nat)) True ∧
  sw (!!decide ((l.getD j noEnt).t = t)) ([!!decide ((l.getD j noEnt).t = t)] = [!!decide ((l.getD j noEnt).t = t)] ∧ SV.p (4 : Nat) (5 : Nat) = SV.p (4 : Nat) (5 : Nat)) True ∧
  sw (!!decide ((l.getD j noEnt).t = t)) ([!!decide ((l.getD j noEnt).t = t)] = [!!decide ((l.getD j noEnt).t = t)] ∧ SV.p (4 : Nat) (12 : Nat) = SV.p (4 : Nat) (12 : Nat)) True ∧
  sw (!!decide ((l.getD j noEnt).t = t)) ([!!decide ((l.getD j noEnt).t = t)] = [!!decide ((l.getD j noEnt).t = t)] ∧ SV.c (Value.int IntKind.u32 (0 : Int)) = SV.c (Value.int IntKind.u32 (0 : Int))) True ∧
  sw (!!decide ((l.getD j noEnt).t = t)) (SV.c (Value.int IntKind.u32 (0 : Int)) = SV.c (Value.int IntKind.u32 (0 : Int))) True ∧ sw (!!decide ((l.getD j noEnt).t = t)) ([!!decide ((l.getD j noEnt).t = t)] = [!!decide ((l.getD j noEnt).t = t)] ∧
  [!!decide ((l.getD j noEnt).t = t)] = [!!decide ((l.getD j noEnt).t = t)] ∧ True ∧ SV.c (Value.bool !decide ((0 : Int) = (0 : Int))) = SV.c (Value.bool !decide ((0 : Int) = (0 : Int)))) True ∧
  [!!decide ((l.getD j noEnt).t = t)] = [!!decide ((l.getD j noEnt).t = t)] ∧ sw (!decide ((l.getD j noEnt).t = t) || !decide ((0 : Int) = (0 : Int))) (ks = ks ∧
  (∀ (i : Nat), i < ks.length → ∀ (j_1 : Nat), j_1 < (15 : Nat) → (bif j_1.beq (15 : Nat) then D.v (Value.bool true) else entF l i j_1) = bif j_1.beq (15 : Nat) then D.v (Value.bool true) else entF (entsOf ks.length fun (i j : Nat) => bif j.beq (15 : Nat) then D.v (Value.bool true) else entF l i j) i j_1) ∧
  last = last ∧ turn = turn ∧ (0 : Int) = (0 : Int) ∧ (0 : Int) = (0 : Int) ∧ (0 : Int) = (0 : Int) ∧ (0 : Int) = (0 : Int) ∧ (0 : Int) = (0 : Int) ∧ false = false ∧
  false = false ∧ false = false ∧ false = false ∧ (0 : Int) = (0 : Int) ∧ (0 : Int) = (0 : Int) ∧ (0 : Int) = (0 : Int) ∧ (0 : Int) = (0 : Int) ∧ (0 : Nat) = (0 : Nat) ∧
  (8 : Int) = (8 : Int) ∧ (!(Nat.beq (0 : Nat) (1 : Nat) || false) && (!false && true) && true) = true) (mdel ks (midx ks h) = ks ∧ (∀ (i : Nat), i < (mdel ks (midx ks h)).length →
  ∀ (j_1 : Nat), j_1 < (15 : Nat) → (match (motive := Option Nat → Nat → Nat → D) midx ks h with | none => fun (i j : Nat) => bif j.beq (15 : Nat) then D.v (Value.bool true) else entF l i j | some j => fun (i j_2 : Nat) => bif j_2.beq (15 : Nat) then D.v (Value.bool true) else entF l (bif i.blt j then i else i + (1 : Nat)) j_2) i j_1 = bif j_1.beq (15 : Nat) then D.v (Value.bool true) else entF (entsOf ks.length fun (i j : Nat) => bif j.beq (15 : Nat) then D.v (Value.bool true) else entF l i j) i j_1) ∧
  last = last ∧ turn = turn ∧ (0 : Int) = (0 : Int) ∧ (0 : Int) = (0 : Int) ∧ (l.getD j noEnt).t = (0 : Int) ∧ (0 : Int) = (0 : Int) ∧ (0 : Int) = (0 : Int) ∧
  false = false ∧ false = false ∧ false = false ∧ false = false ∧ (0 : Int) = (0 : Int) ∧ (0 : Int) = (0 : Int) ∧ (0 : Int) = (0 : Int) ∧ (0 : Int) = (0 : Int) ∧
  ((l.getD j noEnt).k = (0 : Nat) ∧ ∀ (i : Nat), i < (l.getD j noEnt).k → ∀ (j_1 : Nat), j_1 < (5 : Nat) → avCell (l.getD j noEnt).c i j_1 = D.v undef) ∧
  (0 : Int) = (8 : Int) ∧ (!(Nat.beq (0 : Nat) (1 : Nat) || false) && (!false && true) && true) = true) := by
  simp only [↓sw_iff, ↓Bool.and_eq_true, ↓decide_eq_true_eq, ↓decide_eq_false_iff_not, ↓Bool.not_eq_true', ↓Bool.not_eq_false', true_and, and_true, implies_true, Bool.or_false, Nat.beq]
  intro ks l last turn h t hn hb
  have hm : midx ks h = none := mid_none.2 hn
  rw [hm]
  refine ⟨fun _ i hi j hj => ?_, fun j h => by cases h⟩
  rw [← hb.1, show (entsOf l.length fun i j => bif j.beq 15 then D.v (.bool true) else entF l i j) = l from entsOf_M l]
set_option maxRecDepth 100000 in
theorem ok55b : FnIs Try.prog 55 take0M := by
  refine fnIs (C := (ctrs c0)) (by kernel_rfl) c0_ok Try.func55 (code := code55b) (by kernel_rfl) (by kernel_rfl) ?_
  rintro a ⟨ks, l, last, turn, h, t, rfl, hn, hb⟩
  exact ⟨anns [], kcast (vc55b ks l last turn h t hn hb) (by kernel_rfl)⟩

end Go.ZR
