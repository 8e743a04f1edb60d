/- Part 31 of what the closing text rests on. -/
import Derived.Test.YtlbfenfepmmihaaG29
import Derived.Test.YtlbfenfepmmihaaG30
import Derived.Test.YtlbfenfepmmihaaRows
import Derived.KernelRfl
set_option maxRecDepth 100000
namespace Go.ZR
open Go.Z Go.ZM Go.Proofs
def lawC (n : Nat) (pre : List O → Prop) : Ctr := nC n false pre fun _ => [bO true]
end Go.ZR

namespace Go.ZR
open Go.Proofs
open Go.Z Go.ZM Go.RowKit
set_option maxRecDepth 100000
end Go.ZR

set_option maxRecDepth 100000
namespace Go.ZM
open Go.Z Go.ZR
def asMv (A : D) (l : List MvR) : Prop := mvsOf A = l ∧ ∃ f, A = .recs 3 l.length f ∧ ∀ i, i < l.length → ∀ j, j < 3 → f i j = mvCell l i j
theorem asMv_to {A : D} {l : List MvR} (h : asMv A l) : readsTo A (mvsD l) := by
  obtain ⟨_, f, rfl, h2⟩ := h
  exact reads_recs h2
def opens : List MvR := [⟨4, 0, 0⟩]
theorem asMv_one {f : Nat → Nat → D} (h0 : f 0 0 = .v (.int .i64 4)) (h1 : f 0 1 = .v (.int .i64 0)) (h2 : f 0 2 = .v (.int .i64 0)) : asMv (.recs 3 1 f) opens := by
  refine ⟨?_, f, rfl, ?_⟩
  · show [(⟨vi (f 0 0), vi (f 0 1), vi (f 0 2)⟩ : MvR)] = _
    rw [h0, h1, h2]; rfl
  · intro i hi j hj
    match i, hi, j, hj with
    | 0, _, 0, _ => exact h0
    | 0, _, 1, _ => exact h1
    | 0, _, 2, _ => exact h2
def knowF : PrR := calmF 5 (grownF opens 1)
def byesF (x : Int) (b : Bool) : PrR := bif b then moveF (moveF knowF ⟨6, x % 2, 0⟩) ⟨6, 1 - x % 2, 0⟩ else moveF knowF ⟨6, x % 2, 0⟩
def ebbF : Nat → PrR → PrR
  | 0, p => p
  | n + 1, p => moveF (moveF (calmF 2 (ebbF n p)) ⟨7, 0, 0⟩) ⟨7, 1, 0⟩
def goneF (x : Int) (b : Bool) : PrR := calmF 20 (ebbF 6 (byesF x b))
theorem okPr.moved {M N : Nat} {p : PrR} (h : okPr M N p) (hM : M ≤ 1000000) (m : MvR) : okPr (M + 1) (N + 1) (Go.ZM.moveF p m) := okPr.moveF h hM m
theorem knows_ok : okPr 6 11 knowF := (grown_ok opens 1 (by omega)).calm 5 (by omega)
theorem byes_ok (x : Int) (b : Bool) : okPr 8 13 (byesF x b) := by
  have h1 : ∀ m, okPr 7 12 (Go.ZM.moveF knowF m) := fun m => okPr.moved (M := 6) (N := 11) knows_ok (by omega) m
  cases b
  · show okPr 8 13 (Go.ZM.moveF knowF ⟨6, x % 2, 0⟩)
    exact (h1 _).mono (by omega) (by omega)
  · show okPr 8 13 (Go.ZM.moveF (Go.ZM.moveF knowF ⟨6, x % 2, 0⟩) ⟨6, 1 - x % 2, 0⟩)
    exact okPr.moved (M := 7) (N := 12) (h1 _) (by omega) _
theorem ebb_ok (x : Int) (b : Bool) : ∀ n, n ≤ 100 → okPr (8 + 4 * n) (13 + 6 * n) (ebbF n (byesF x b))
  | 0, _ => byes_ok x b
  | n + 1, hn => ((((ebb_ok x b n (by omega)).calm 2 (by omega)).moved (by omega) _).moved (by omega) _).mono (by omega) (by omega)
end Go.ZM
namespace Go.ZR
open Go.Z Go.ZM Go.Proofs
def grownW : Ctr := { nC 1 false (fun a => ∃ l A, a = [.d A] ∧ asMv A l ∧ l.length ≤ 1073741824) (fun a => [prO (grownF (mvsOf (dO (at_ a 0))) (min 120 (mvsOf (dO (at_ a 0))).length))]) with ro := true }
theorem ok25w : FnIs Try.prog 25 grownW := ok25.weak fun a ha => by
  obtain ⟨l, A, rfl, hA, hl⟩ := ha
  refine ⟨[.d (mvsD l)], ⟨l, rfl, hl⟩, toL_cons (toO_d (asMv_to hA)) (toL_refl _), ?_, rfl⟩
  show [prO (grownF (mvsOf (mvsD l)) (min 120 (mvsOf (mvsD l)).length))] = [prO (grownF (mvsOf A) (min 120 (mvsOf A).length))]
  rw [hA.1, show mvsOf (mvsD l) = l from mvsOf_mvs l]
def l12 : List (Nat × Ctr) := [(25, grownW), (26, ansAC), (32, calmC), (36, movC), (35, stateC)]
theorem l12_ok : COk Try.prog (ctrs l12) := cok_cons ok25w (cok_cons ok26 (cok_cons ok32 (cok_cons ok36 (cok_cons ok35 cok_nil))))
def ebbA (p : PrR) : LoopAnn where
  γ := Nat
  pre := fun i => i ≤ 6
  μ := fun i => 6 - i
  items := fun i => [(7, .c (iO .i64 (i : Int))), (5, .blk (blkP (ebbF i p)))]
def partsC : Ctr := lawC 2 fun a => ∃ (x : Int) (b : Bool), a = [iO .u8 x, bO b] ∧ 0 ≤ x ∧ x ≤ 255
end Go.ZR

set_option maxRecDepth 100000
namespace Go.ZM
open Go.Z Go.ZR
def overP (p : PrR) : Bool := decide (p.a.st = 0) && (decide (p.b.st = 0) && (!p.u && !p.t))
theorem gone_0f : overP (goneF 0 false) = true := by kernel_rfl
theorem gone_0t : overP (goneF 0 true) = true := by kernel_rfl
theorem gone_1f : overP (goneF 1 false) = true := by kernel_rfl
theorem gone_1t : overP (goneF 1 true) = true := by kernel_rfl
theorem byes_mod (x : Int) (b : Bool) : byesF x b = byesF (x % 2) b := by
  unfold byesF
  rw [show x % 2 % 2 = x % 2 by omega]
theorem gone_over (x : Int) (b : Bool) : overP (goneF x b) = true := by
  have e : goneF x b = goneF (x % 2) b := by
    unfold goneF
    rw [byes_mod x b]
  rw [e]
  have h : x % 2 = 0 ∨ x % 2 = 1 := by omega
  rcases h with h | h <;> rw [h] <;> cases b
  · exact gone_0f
  · exact gone_0t
  · exact gone_1f
  · exact gone_1t
theorem gone_law (x : Int) (b : Bool) : (goneF x b).a.st = 0 ∧ (goneF x b).b.st = 0 ∧ (goneF x b).u = false ∧ (goneF x b).t = false := by
  have h := gone_over x b
  unfold overP at h
  simp only [Bool.and_eq_true, decide_eq_true_eq, Bool.not_eq_true'] at h
  exact ⟨h.1, h.2.1, h.2.2.1, h.2.2.2⟩
end Go.ZM

namespace Go.ZR
open Go.Proofs
open Go.Z Go.ZM Go.RowKit
set_option maxRecDepth 100000
theorem size78 : Try.prog.types[(78 : Nat)].size = 3 := by kernel_rfl
theorem opens_read : mvsOf (D.recs Try.prog.types[(78 : Nat)].size (1 : Nat) fun (i j : Nat) => [D.v (Value.int IntKind.i64 (4 : Int)), D.v (Value.int IntKind.i64 (0 : Int)), D.v (Value.int IntKind.i64 (0 : Int))].getD (i * Try.prog.types[(78 : Nat)].size + j) (D.v undef)) = opens := by kernel_rfl
theorem pr_read (p : PrR) : PrR.mk p.a p.b (ltrsOf (D.recs 4 p.v.length (ltrCell p.v))) (ltrsOf (D.recs 4 p.w.length (ltrCell p.w))) p.now p.draw p.u p.t = p := by rw [ltrsOf_ltrs, ltrsOf_ltrs]
theorem ebb_succ (g : Nat) (p : PrR) : ebbF (g + 1) p = moveF (moveF (calmF 2 (ebbF g p)) ⟨7, 0, 0⟩) ⟨7, 1, 0⟩ := rfl
noncomputable def code9 : Code := match Try.f9.body with | some c => c | none => .skip
@[reducible] noncomputable def q9_1 : Nat := Try.prog.types[78].size
@[reducible] noncomputable def q9_2 : D := D.recs q9_1 (1 : Nat) fun (i j : Nat) => [D.v (Value.int IntKind.i64 (4 : Int)), D.v (Value.int IntKind.i64 (0 : Int)), D.v (Value.int IntKind.i64 (0 : Int))].getD (i * q9_1 + j) (D.v undef)
@[reducible] noncomputable def q9_3 (x0 : PrR) : List LtrR := ltrsOf (D.recs 4 x0.v.length (ltrCell x0.v))
@[reducible] noncomputable def q9_4 (x0 : PrR) : List LtrR := ltrsOf (D.recs 4 x0.w.length (ltrCell x0.w))
@[reducible] noncomputable def q9_5 (x0 : PrR) (x1 : List LtrR) (x2 : List LtrR) : PrR := PrR.mk x0.a x0.b x1 x2 x0.now x0.draw x0.u x0.t
@[reducible] noncomputable def q9_6 : List O := [O.own 142 (D.recs 4 noOut.pk.length (ltrCell noOut.pk)), O.own 3 (D.ints IntKind.i64 noOut.ev)]
@[reducible] noncomputable def q9_7 (x0 : PrR) : O := O.ptr 59 [O.ptr 152 [iO .u64 x0.a.key, iO .u32 x0.a.win, iO .i64 x0.a.life, iO .i64 x0.a.rto, iO .i64 x0.a.tries, iO .i64 x0.a.st, iO .u32 x0.a.mt, iO .u32 x0.a.pt, iO .u32 x0.a.ms, iO .u32 x0.a.ps, iO .u32 x0.a.ltag, iO .u8 x0.a.lch.t, iO .u8 x0.a.lch.f, O.d (D.ints IntKind.u8 x0.a.lch.v), O.d (D.v (Value.bool x0.a.set)), iO .i64 x0.a.at_, iO .i64 x0.a.left, O.any, O.any], O.ptr 152 [iO .u64 x0.b.key, iO .u32 x0.b.win, iO .i64 x0.b.life, iO .i64 x0.b.rto, iO .i64 x0.b.tries, iO .i64 x0.b.st, iO .u32 x0.b.mt, iO .u32 x0.b.pt, iO .u32 x0.b.ms, iO .u32 x0.b.ps, iO .u32 x0.b.ltag, iO .u8 x0.b.lch.t, iO .u8 x0.b.lch.f, O.d (D.ints IntKind.u8 x0.b.lch.v), O.d (D.v (Value.bool x0.b.set)), iO .i64 x0.b.at_, iO .i64 x0.b.left, O.any, O.any], O.ptr 148 (iO .u64 x0.a.key :: iO .u32 x0.a.win :: iO .i64 x0.a.life :: iO .i64 x0.a.rto :: iO .i64 x0.a.tries :: iO .u32 x0.a.ltag :: iO .u8 x0.a.lch.t :: iO .u8 x0.a.lch.f :: O.d (D.ints IntKind.u8 x0.a.lch.v) :: iO .i64 x0.a.at_ :: iO .i64 x0.a.left :: O.d (D.v (Value.bool x0.a.set)) :: iO .i64 x0.a.st :: iO .u32 x0.a.mt :: iO .u32 x0.a.ms :: iO .u32 x0.a.pt :: iO .u32 x0.a.ps :: q9_6), O.ptr 148 (iO .u64 x0.b.key :: iO .u32 x0.b.win :: iO .i64 x0.b.life :: iO .i64 x0.b.rto :: iO .i64 x0.b.tries :: iO .u32 x0.b.ltag :: iO .u8 x0.b.lch.t :: iO .u8 x0.b.lch.f :: O.d (D.ints IntKind.u8 x0.b.lch.v) :: iO .i64 x0.b.at_ :: iO .i64 x0.b.left :: O.d (D.v (Value.bool x0.b.set)) :: iO .i64 x0.b.st :: iO .u32 x0.b.mt :: iO .u32 x0.b.ms :: iO .u32 x0.b.pt :: iO .u32 x0.b.ps :: q9_6), O.own 150 (D.recs 4 x0.v.length (ltrCell x0.v)), O.own 150 (D.recs 4 x0.w.length (ltrCell x0.w)), iO .i64 x0.now, iO .u32 x0.draw, O.d (D.v (Value.bool false)), O.d (D.v (Value.bool x0.u)), O.d (D.v (Value.bool x0.t))]
@[reducible] noncomputable def q9_8 (x0 : Nat) : Int := (↑x0 : Int)
@[reducible] noncomputable def q9_9 (x0 : PrR) (x1 : Nat) : List O := [q9_7 x0, iO .i64 (q9_8 x1)]
@[reducible] noncomputable def q9_10 : List O := [iO .i64 (0 : Int)]
@[reducible] noncomputable def q9_11 (x0 : PrR) (x1 : MvR) : List O := [q9_7 x0, O.agg [iO .i64 x1.kind, iO .i64 x1.s, iO .i64 x1.k]]
@[reducible] noncomputable def q9_12 (x0 : Int) : Value := Value.int IntKind.i64 (IntKind.i64.wrap ((1 : Int) - IntKind.i64.wrap (x0.tmod (2 : Int))))
@[reducible] def q9_13 (x0 : PrR) (x1 : Nat) (x2 : PrR) : Prop := x0.a.key = (ebbF x1 x2).a.key
@[reducible] def q9_14 (x0 : PrR) (x1 : Nat) (x2 : PrR) : Prop := x0.a.win = (ebbF x1 x2).a.win
@[reducible] def q9_15 (x0 : PrR) (x1 : Nat) (x2 : PrR) : Prop := x0.a.life = (ebbF x1 x2).a.life
@[reducible] def q9_16 (x0 : PrR) (x1 : Nat) (x2 : PrR) : Prop := x0.a.rto = (ebbF x1 x2).a.rto
@[reducible] def q9_17 (x0 : PrR) (x1 : Nat) (x2 : PrR) : Prop := x0.a.tries = (ebbF x1 x2).a.tries
@[reducible] def q9_18 (x0 : PrR) (x1 : Nat) (x2 : PrR) : Prop := x0.a.st = (ebbF x1 x2).a.st
@[reducible] def q9_19 (x0 : PrR) (x1 : Nat) (x2 : PrR) : Prop := x0.a.mt = (ebbF x1 x2).a.mt
@[reducible] def q9_20 (x0 : PrR) (x1 : Nat) (x2 : PrR) : Prop := x0.a.pt = (ebbF x1 x2).a.pt
@[reducible] def q9_21 (x0 : PrR) (x1 : Nat) (x2 : PrR) : Prop := x0.a.ms = (ebbF x1 x2).a.ms
@[reducible] def q9_22 (x0 : PrR) (x1 : Nat) (x2 : PrR) : Prop := x0.a.ps = (ebbF x1 x2).a.ps
@[reducible] def q9_23 (x0 : PrR) (x1 : Nat) (x2 : PrR) : Prop := x0.a.ltag = (ebbF x1 x2).a.ltag
@[reducible] def q9_24 (x0 : PrR) (x1 : Nat) (x2 : PrR) : Prop := x0.a.lch.t = (ebbF x1 x2).a.lch.t
@[reducible] def q9_25 (x0 : PrR) (x1 : Nat) (x2 : PrR) : Prop := x0.a.lch.f = (ebbF x1 x2).a.lch.f
@[reducible] def q9_26 (x0 : PrR) (x1 : Nat) (x2 : PrR) : Prop := x0.a.lch.v = (ebbF x1 x2).a.lch.v
@[reducible] def q9_27 (x0 : PrR) (x1 : Nat) (x2 : PrR) : Prop := x0.a.set = (ebbF x1 x2).a.set
@[reducible] def q9_28 (x0 : PrR) (x1 : Nat) (x2 : PrR) : Prop := x0.a.at_ = (ebbF x1 x2).a.at_
@[reducible] def q9_29 (x0 : PrR) (x1 : Nat) (x2 : PrR) : Prop := x0.a.left = (ebbF x1 x2).a.left
@[reducible] def q9_30 (x0 : PrR) (x1 : Nat) (x2 : PrR) : Prop := x0.b.key = (ebbF x1 x2).b.key
@[reducible] def q9_31 (x0 : PrR) (x1 : Nat) (x2 : PrR) : Prop := x0.b.win = (ebbF x1 x2).b.win
@[reducible] def q9_32 (x0 : PrR) (x1 : Nat) (x2 : PrR) : Prop := x0.b.life = (ebbF x1 x2).b.life
@[reducible] def q9_33 (x0 : PrR) (x1 : Nat) (x2 : PrR) : Prop := x0.b.rto = (ebbF x1 x2).b.rto
@[reducible] def q9_34 (x0 : PrR) (x1 : Nat) (x2 : PrR) : Prop := x0.b.tries = (ebbF x1 x2).b.tries
@[reducible] def q9_35 (x0 : PrR) (x1 : Nat) (x2 : PrR) : Prop := x0.b.st = (ebbF x1 x2).b.st
@[reducible] def q9_36 (x0 : PrR) (x1 : Nat) (x2 : PrR) : Prop := x0.b.mt = (ebbF x1 x2).b.mt
@[reducible] def q9_37 (x0 : PrR) (x1 : Nat) (x2 : PrR) : Prop := x0.b.pt = (ebbF x1 x2).b.pt
@[reducible] def q9_38 (x0 : PrR) (x1 : Nat) (x2 : PrR) : Prop := x0.b.ms = (ebbF x1 x2).b.ms
@[reducible] def q9_39 (x0 : PrR) (x1 : Nat) (x2 : PrR) : Prop := x0.b.ps = (ebbF x1 x2).b.ps
@[reducible] def q9_40 (x0 : PrR) (x1 : Nat) (x2 : PrR) : Prop := x0.b.ltag = (ebbF x1 x2).b.ltag
@[reducible] def q9_41 (x0 : PrR) (x1 : Nat) (x2 : PrR) : Prop := x0.b.lch.t = (ebbF x1 x2).b.lch.t
@[reducible] def q9_42 (x0 : PrR) (x1 : Nat) (x2 : PrR) : Prop := x0.b.lch.f = (ebbF x1 x2).b.lch.f
@[reducible] def q9_43 (x0 : PrR) (x1 : Nat) (x2 : PrR) : Prop := x0.b.lch.v = (ebbF x1 x2).b.lch.v
@[reducible] def q9_44 (x0 : PrR) (x1 : Nat) (x2 : PrR) : Prop := x0.b.set = (ebbF x1 x2).b.set
@[reducible] def q9_45 (x0 : PrR) (x1 : Nat) (x2 : PrR) : Prop := x0.b.at_ = (ebbF x1 x2).b.at_
@[reducible] def q9_46 (x0 : PrR) (x1 : Nat) (x2 : PrR) : Prop := x0.b.left = (ebbF x1 x2).b.left
@[reducible] def q9_47 : Prop := noOut.pk.length = noOut.pk.length ∧ ∀ (i : Nat), i < noOut.pk.length → ∀ (j : Nat), j < (4 : Nat) → ltrCell noOut.pk i j = ltrCell noOut.pk i j
@[reducible] def q9_48 : Prop := noOut.ev = noOut.ev
@[reducible] def q9_49 (x0 : PrR) (x1 : Nat) (x2 : PrR) : Prop := x0.v.length = (ebbF x1 x2).v.length ∧ ∀ (i : Nat), i < x0.v.length → ∀ (j : Nat), j < (4 : Nat) →
  ltrCell x0.v i j = ltrCell (ebbF x1 x2).v i j
@[reducible] def q9_50 (x0 : PrR) (x1 : Nat) (x2 : PrR) : Prop := x0.w.length = (ebbF x1 x2).w.length ∧ ∀ (i : Nat), i < x0.w.length → ∀ (j : Nat), j < (4 : Nat) →
  ltrCell x0.w i j = ltrCell (ebbF x1 x2).w i j
@[reducible] noncomputable def q9_53 (x0 : PrR) : PrR := moveF (PrR.mk x0.a x0.b (q9_3 x0) (q9_4 x0) x0.now x0.draw x0.u x0.t) (MvR.mk (7 : Int) (1 : Int) (0 : Int))
@[reducible] def q9_54 (x0 : PrR) : Prop := ∃ (p : PrR), ∃ (n : Nat), [q9_7 x0, iO .i64 (2 : Int)] = q9_9 p n ∧ n ≤ (30 : Nat) ∧
  okP (500 : Nat) p
@[reducible] def q9_55 (x0 : PrR) : Prop := ∃ (p : PrR), ∃ (m : MvR), [q9_7 x0, O.agg (iO .i64 (7 : Int) :: iO .i64 (0 : Int) :: q9_10)] = q9_11 p m ∧
  okP (1900 : Nat) p
@[reducible] def q9_56 (x0 : PrR) : Prop := ∃ (p : PrR), ∃ (m : MvR), [q9_7 x0, O.agg (iO .i64 (7 : Int) :: iO .i64 (1 : Int) :: q9_10)] = q9_11 p m ∧
  okP (1900 : Nat) p
@[reducible] def q9_57 : Prop := some (SV.tup []) = some (SV.tup [])
@[reducible] noncomputable def q9_58 (x0 : Int) : Option SV := some (SV.agg [SV.c (Value.int IntKind.i64 (6 : Int)), SV.c (q9_12 x0), SV.c (Value.int IntKind.i64 (0 : Int))])
@[reducible] noncomputable def q9_59 (x0 : Int) : Option SV := some (SV.c (Value.int IntKind.i64 (IntKind.i64.wrap (x0.tmod (2 : Int)))))
@[reducible] def q9_60 (x0 : Int) : Prop := q9_59 x0 = q9_59 x0
@[reducible] def q9_61 : Prop := some (SV.p (15 : Nat) (0 : Nat)) = some (SV.p (15 : Nat) (0 : Nat))
@[reducible] noncomputable def q9_62 (x0 : Int) : Option SV := some (SV.agg [SV.c (Value.int IntKind.i64 (6 : Int)), SV.c (Value.int IntKind.i64 (IntKind.i64.wrap (x0.tmod (2 : Int)))), SV.c (Value.int IntKind.i64 (0 : Int))])
@[reducible] def q9_63 (x0 : Int) : Prop := some (SV.c (Value.int IntKind.u8 x0)) = some (SV.c (Value.int IntKind.u8 x0))
@[reducible] def q9_64 : Prop := some (SV.b false) = some (SV.b false)
@[reducible] noncomputable def q9_65 : Option SV := some (SV.agg [SV.c (Value.int IntKind.i64 (4 : Int)), SV.c (Value.int IntKind.i64 (0 : Int)), SV.c (Value.int IntKind.i64 (0 : Int))])
@[reducible] def q9_66 (x0 : Bool) (x1 : Int) : Prop := some (SV.c (Value.bool x0)) = some (SV.c (Value.bool x0)) ∧ q9_57 ∧ q9_62 x1 = q9_62 x1 ∧ q9_60 x1 ∧
  q9_61 ∧ q9_60 x1 ∧ q9_60 x1 ∧ some (SV.c (Value.int IntKind.u8 (x1.tmod (2 : Int)))) = some (SV.c (Value.int IntKind.u8 (x1.tmod (2 : Int)))) ∧ q9_63 x1 ∧
  q9_57 ∧ q9_61 ∧ q9_64 ∧ q9_64 ∧ q9_61 ∧ q9_64 ∧ some (SV.c (Value.bool false)) = some (SV.c (Value.bool false)) ∧ some (SV.c (Value.bool true)) = some (SV.c (Value.bool true)) ∧
  q9_61 ∧ q9_61 ∧ some (SV.a (0 : Nat)) = some (SV.a (0 : Nat)) ∧ q9_65 = q9_65 ∧ q9_64 ∧ q9_63 x1 ∧ some (SV.c (Value.bool x0)) = some (SV.c (Value.bool x0)) ∧
  True
@[reducible] def q9_67 (x0 : PrR) : Prop := some (R.ro (D.ints IntKind.u8 x0.b.lch.v)) = some (R.ro (D.ints IntKind.u8 x0.b.lch.v))
@[reducible] def q9_68 (x0 : PrR) : Prop := some (R.ro (D.ints IntKind.u8 x0.a.lch.v)) = some (R.ro (D.ints IntKind.u8 x0.a.lch.v))
@[reducible] def q9_69 : Prop := some R.dead = some R.dead
@[reducible] def q9_70 (x0 : PrR) (x1 : PrR) (x2 : PrR) : Prop := q9_67 x0 ∧ q9_68 x0 ∧ q9_67 x0 ∧ q9_68 x0 ∧ q9_69 ∧ q9_69 ∧ q9_69 ∧ q9_69 ∧ q9_69 ∧ q9_69 ∧
  q9_69 ∧ q9_69 ∧ q9_69 ∧ q9_69 ∧ q9_67 x1 ∧ q9_68 x1 ∧ q9_67 x1 ∧ q9_68 x1 ∧ q9_69 ∧ q9_69 ∧ q9_69 ∧ q9_69 ∧ q9_69 ∧ q9_69 ∧ q9_69 ∧ q9_69 ∧ q9_69 ∧ q9_69 ∧
  q9_67 x2 ∧ q9_68 x2 ∧ q9_67 x2 ∧ q9_68 x2 ∧ some (R.ro q9_2) = some (R.ro q9_2) ∧ True
@[reducible] noncomputable def q9_71 : List D := [D.recs 4 noOut.pk.length (ltrCell noOut.pk), D.ints IntKind.i64 noOut.ev]
@[reducible] noncomputable def q9_72 (x0 : PrR) : List D := D.v (Value.int IntKind.u64 x0.a.key) :: D.v (Value.int IntKind.u32 x0.a.win) :: D.v (Value.int IntKind.i64 x0.a.life) :: D.v (Value.int IntKind.i64 x0.a.rto) :: D.v (Value.int IntKind.i64 x0.a.tries) :: D.v (Value.int IntKind.u32 x0.a.ltag) :: D.v (Value.int IntKind.u8 x0.a.lch.t) :: D.v (Value.int IntKind.u8 x0.a.lch.f) :: D.ints IntKind.u8 x0.a.lch.v :: D.v (Value.int IntKind.i64 x0.a.at_) :: D.v (Value.int IntKind.i64 x0.a.left) :: D.v (Value.bool x0.a.set) :: D.v (Value.int IntKind.i64 x0.a.st) :: D.v (Value.int IntKind.u32 x0.a.mt) :: D.v (Value.int IntKind.u32 x0.a.ms) :: D.v (Value.int IntKind.u32 x0.a.pt) :: D.v (Value.int IntKind.u32 x0.a.ps) :: q9_71
@[reducible] noncomputable def q9_73 (x0 : AsR) : List O := [O.d (D.ptr 148 (19 : Nat) fun (i : Nat) => [D.v (Value.int IntKind.u64 x0.key), D.v (Value.int IntKind.u32 x0.win), D.v (Value.int IntKind.i64 x0.life), D.v (Value.int IntKind.i64 x0.rto), D.v (Value.int IntKind.i64 x0.tries), D.v (Value.int IntKind.u32 x0.ltag), D.v (Value.int IntKind.u8 x0.lch.t), D.v (Value.int IntKind.u8 x0.lch.f), D.ints IntKind.u8 x0.lch.v, D.v (Value.int IntKind.i64 x0.at_), D.v (Value.int IntKind.i64 x0.left), D.v (Value.bool x0.set), D.v (Value.int IntKind.i64 x0.st), D.v (Value.int IntKind.u32 x0.mt), D.v (Value.int IntKind.u32 x0.ms), D.v (Value.int IntKind.u32 x0.pt), D.v (Value.int IntKind.u32 x0.ps), D.recs 4 (0 : Nat) (ltrCell []), D.ints IntKind.i64 []].getD i (D.v undef))]
@[reducible] noncomputable def q9_74 (x0 : PrR) : List D := D.v (Value.int IntKind.u64 x0.b.key) :: D.v (Value.int IntKind.u32 x0.b.win) :: D.v (Value.int IntKind.i64 x0.b.life) :: D.v (Value.int IntKind.i64 x0.b.rto) :: D.v (Value.int IntKind.i64 x0.b.tries) :: D.v (Value.int IntKind.u32 x0.b.ltag) :: D.v (Value.int IntKind.u8 x0.b.lch.t) :: D.v (Value.int IntKind.u8 x0.b.lch.f) :: D.ints IntKind.u8 x0.b.lch.v :: D.v (Value.int IntKind.i64 x0.b.at_) :: D.v (Value.int IntKind.i64 x0.b.left) :: D.v (Value.bool x0.b.set) :: D.v (Value.int IntKind.i64 x0.b.st) :: D.v (Value.int IntKind.u32 x0.b.mt) :: D.v (Value.int IntKind.u32 x0.b.ms) :: D.v (Value.int IntKind.u32 x0.b.pt) :: D.v (Value.int IntKind.u32 x0.b.ps) :: q9_71
@[reducible] def q9_75 : Prop := false = true ∧ true = true
@[reducible] def q9_76 (x0 : PrR) (x1 : PrR) : Prop := (∃ (p : PrR), ∃ (n : Nat), [q9_7 x0, iO .i64 (20 : Int)] = q9_9 p n ∧ n ≤ (30 : Nat) ∧
  okP (500 : Nat) p) ∧ ((0 : Int) ≤ (0 : Int) ∧ (0 : Int) < (↑(2 : Nat) : Int)) ∧ (∃ (s : AsR), [O.d (D.ptr 148 (q9_72 x1).length fun (i : Nat) => (q9_72 x1).getD i (D.v undef))] = q9_73 s) ∧
  True ∧ sw (decide (x1.a.st = (0 : Int))) (((0 : Int) ≤ (1 : Int) ∧ (1 : Int) < (↑(2 : Nat) : Int)) ∧ (∃ (s : AsR), [O.d (D.ptr 148 (q9_74 x1).length fun (i : Nat) => (q9_74 x1).getD i (D.v undef))] = q9_73 s) ∧
  True ∧ sw (decide (x1.b.st = (0 : Int))) (((0 : Int) ≤ (0 : Int) ∧ (0 : Int) < (↑(2 : Nat) : Int)) ∧ sw (!x1.u) (((0 : Int) ≤ (1 : Int) ∧ (1 : Int) < (↑(2 : Nat) : Int)) ∧
  (!x1.t) = true ∧ true = true) q9_75) q9_75) q9_75
set_option maxHeartbeats 4000000 in
theorem vc9 : have y := mvsOf q9_2; have y_1 := grownF y (min (120 : Nat) y.length); have y_2 := q9_3 y_1; have y_3 := q9_4 y_1; have y_4 := calmF (Int.toNat (5 : Int)) (q9_5 y_1 y_2 y_3);
  have y_5 := q9_3 y_4; have y_6 := q9_4 y_4; ∀ (x : Int), have y_7 := moveF (q9_5 y_4 y_5 y_6) (MvR.mk (6 : Int) (IntKind.i64.wrap (x.tmod (2 : Int))) (0 : Int));
  have y_8 := moveF (PrR.mk y_7.a y_7.b (q9_3 y_7) (q9_4 y_7) y_7.now y_7.draw y_7.u y_7.t) (MvR.mk (6 : Int) (IntKind.i64.wrap ((1 : Int) - IntKind.i64.wrap (x.tmod (2 : Int)))) (0 : Int));
  ∀ (b : Bool), have y_9 := byesF x b; (0 : Int) ≤ x → x ≤ (255 : Int) → (∃ (l : List MvR), ∃ (A : D), [O.d q9_2] = [O.d A] ∧ asMv A l ∧ l.length ≤ (1073741824 : Nat)) ∧
  ([] : List O) = [] ∧ (∃ (p : PrR), ∃ (n : Nat), [q9_7 y_1, iO .i64 (5 : Int)] = q9_9 p n ∧ n ≤ (30 : Nat) ∧ okP (500 : Nat) p) ∧
  (2 : Int) ≠ (0 : Int) ∧ (∃ (p : PrR), ∃ (m : MvR), [q9_7 y_4, O.agg (iO .i64 (6 : Int) :: iO .i64 (IntKind.i64.wrap (x.tmod (2 : Int))) :: q9_10)] = q9_11 p m ∧
  okP (1900 : Nat) p) ∧ sw b (True ∧ (∃ (p : PrR), ∃ (m : MvR), [q9_7 y_7, O.agg (iO .i64 (6 : Int) :: O.d (D.v (q9_12 x)) :: q9_10)] = q9_11 p m ∧
  okP (1900 : Nat) p) ∧ ∃ (g0 : Nat), g0 ≤ (6 : Nat) ∧ (0 : Int) = q9_8 g0 ∧ q9_13 y_8 g0 y_9 ∧ q9_14 y_8 g0 y_9 ∧ q9_15 y_8 g0 y_9 ∧ q9_16 y_8 g0 y_9 ∧ q9_17 y_8 g0 y_9 ∧
  q9_18 y_8 g0 y_9 ∧ q9_19 y_8 g0 y_9 ∧ q9_20 y_8 g0 y_9 ∧ q9_21 y_8 g0 y_9 ∧ q9_22 y_8 g0 y_9 ∧ q9_23 y_8 g0 y_9 ∧ q9_24 y_8 g0 y_9 ∧ q9_25 y_8 g0 y_9 ∧
  q9_26 y_8 g0 y_9 ∧ q9_27 y_8 g0 y_9 ∧ q9_28 y_8 g0 y_9 ∧ q9_29 y_8 g0 y_9 ∧ q9_30 y_8 g0 y_9 ∧ q9_31 y_8 g0 y_9 ∧ q9_32 y_8 g0 y_9 ∧ q9_33 y_8 g0 y_9 ∧
  q9_34 y_8 g0 y_9 ∧ q9_35 y_8 g0 y_9 ∧ q9_36 y_8 g0 y_9 ∧ q9_37 y_8 g0 y_9 ∧ q9_38 y_8 g0 y_9 ∧ q9_39 y_8 g0 y_9 ∧ q9_40 y_8 g0 y_9 ∧ q9_41 y_8 g0 y_9 ∧
  q9_42 y_8 g0 y_9 ∧ q9_43 y_8 g0 y_9 ∧ q9_44 y_8 g0 y_9 ∧ q9_45 y_8 g0 y_9 ∧ q9_46 y_8 g0 y_9 ∧ q9_13 y_8 g0 y_9 ∧ q9_14 y_8 g0 y_9 ∧ q9_15 y_8 g0 y_9 ∧
  q9_16 y_8 g0 y_9 ∧ q9_17 y_8 g0 y_9 ∧ q9_23 y_8 g0 y_9 ∧ q9_24 y_8 g0 y_9 ∧ q9_25 y_8 g0 y_9 ∧ q9_26 y_8 g0 y_9 ∧ q9_28 y_8 g0 y_9 ∧ q9_29 y_8 g0 y_9 ∧
  q9_27 y_8 g0 y_9 ∧ q9_18 y_8 g0 y_9 ∧ q9_19 y_8 g0 y_9 ∧ q9_21 y_8 g0 y_9 ∧ q9_20 y_8 g0 y_9 ∧ q9_22 y_8 g0 y_9 ∧ q9_47 ∧ q9_48 ∧ q9_30 y_8 g0 y_9 ∧ q9_31 y_8 g0 y_9 ∧
  q9_32 y_8 g0 y_9 ∧ q9_33 y_8 g0 y_9 ∧ q9_34 y_8 g0 y_9 ∧ q9_40 y_8 g0 y_9 ∧ q9_41 y_8 g0 y_9 ∧ q9_42 y_8 g0 y_9 ∧ q9_43 y_8 g0 y_9 ∧ q9_45 y_8 g0 y_9 ∧
  q9_46 y_8 g0 y_9 ∧ q9_44 y_8 g0 y_9 ∧ q9_35 y_8 g0 y_9 ∧ q9_36 y_8 g0 y_9 ∧ q9_38 y_8 g0 y_9 ∧ q9_37 y_8 g0 y_9 ∧ q9_39 y_8 g0 y_9 ∧ q9_47 ∧ q9_48 ∧ q9_49 y_8 g0 y_9 ∧
  q9_50 y_8 g0 y_9 ∧ y_8.now = (ebbF g0 y_9).now ∧ y_8.draw = (ebbF g0 y_9).draw ∧ false = false ∧ y_8.u = (ebbF g0 y_9).u ∧ y_8.t = (ebbF g0 y_9).t ∧ (true && true && true) = true ∧
  ∀ (g : Nat), have y_10 := ebbF g y_9; have y_11 := q9_3 y_10; have y_12 := q9_4 y_10; have y_13 := calmF (Int.toNat (2 : Int)) (q9_5 y_10 y_11 y_12); have y_14 := q9_3 y_13;
  have y_15 := q9_4 y_13; have y_16 := calmF (Int.toNat (20 : Int)) (q9_5 y_10 y_11 y_12); have y_17 := moveF (q9_5 y_13 y_14 y_15) (MvR.mk (7 : Int) (0 : Int) (0 : Int));
  have y_18 := q9_53 y_17; g ≤ (6 : Nat) → True ∧ sw (decide (q9_8 g < (6 : Int))) (q9_54 y_10 ∧ q9_55 y_13 ∧ q9_56 y_17 ∧ True ∧ ∃ (g' : Nat), g' ≤ (6 : Nat) ∧
  (6 : Nat) - g' < (6 : Nat) - g ∧ (IntKind.i64.wrap (q9_8 g + (1 : Int)) = q9_8 g' ∧ q9_13 y_18 g' y_9 ∧ q9_14 y_18 g' y_9 ∧ q9_15 y_18 g' y_9 ∧ q9_16 y_18 g' y_9 ∧
  q9_17 y_18 g' y_9 ∧ q9_18 y_18 g' y_9 ∧ q9_19 y_18 g' y_9 ∧ q9_20 y_18 g' y_9 ∧ q9_21 y_18 g' y_9 ∧ q9_22 y_18 g' y_9 ∧ q9_23 y_18 g' y_9 ∧ q9_24 y_18 g' y_9 ∧
  q9_25 y_18 g' y_9 ∧ q9_26 y_18 g' y_9 ∧ q9_27 y_18 g' y_9 ∧ q9_28 y_18 g' y_9 ∧ q9_29 y_18 g' y_9 ∧ q9_30 y_18 g' y_9 ∧ q9_31 y_18 g' y_9 ∧ q9_32 y_18 g' y_9 ∧
  q9_33 y_18 g' y_9 ∧ q9_34 y_18 g' y_9 ∧ q9_35 y_18 g' y_9 ∧ q9_36 y_18 g' y_9 ∧ q9_37 y_18 g' y_9 ∧ q9_38 y_18 g' y_9 ∧ q9_39 y_18 g' y_9 ∧ q9_40 y_18 g' y_9 ∧
  q9_41 y_18 g' y_9 ∧ q9_42 y_18 g' y_9 ∧ q9_43 y_18 g' y_9 ∧ q9_44 y_18 g' y_9 ∧ q9_45 y_18 g' y_9 ∧ q9_46 y_18 g' y_9 ∧ q9_13 y_18 g' y_9 ∧ q9_14 y_18 g' y_9 ∧
  q9_15 y_18 g' y_9 ∧ q9_16 y_18 g' y_9 ∧ q9_17 y_18 g' y_9 ∧ q9_23 y_18 g' y_9 ∧ q9_24 y_18 g' y_9 ∧ q9_25 y_18 g' y_9 ∧ q9_26 y_18 g' y_9 ∧ q9_28 y_18 g' y_9 ∧
  q9_29 y_18 g' y_9 ∧ q9_27 y_18 g' y_9 ∧ q9_18 y_18 g' y_9 ∧ q9_19 y_18 g' y_9 ∧ q9_21 y_18 g' y_9 ∧ q9_20 y_18 g' y_9 ∧ q9_22 y_18 g' y_9 ∧ q9_47 ∧ q9_48 ∧
  q9_30 y_18 g' y_9 ∧ q9_31 y_18 g' y_9 ∧ q9_32 y_18 g' y_9 ∧ q9_33 y_18 g' y_9 ∧ q9_34 y_18 g' y_9 ∧ q9_40 y_18 g' y_9 ∧ q9_41 y_18 g' y_9 ∧ q9_42 y_18 g' y_9 ∧
  q9_43 y_18 g' y_9 ∧ q9_45 y_18 g' y_9 ∧ q9_46 y_18 g' y_9 ∧ q9_44 y_18 g' y_9 ∧ q9_35 y_18 g' y_9 ∧ q9_36 y_18 g' y_9 ∧ q9_38 y_18 g' y_9 ∧ q9_37 y_18 g' y_9 ∧
  q9_39 y_18 g' y_9 ∧ q9_47 ∧ q9_48 ∧ q9_49 y_18 g' y_9 ∧ q9_50 y_18 g' y_9 ∧ y_18.now = (ebbF g' y_9).now ∧ y_18.draw = (ebbF g' y_9).draw ∧ false = false ∧
  y_18.u = (ebbF g' y_9).u ∧ y_18.t = (ebbF g' y_9).t ∧ (true && true && true && true) = true) ∧
  (q9_57 ∧ q9_58 x = q9_58 x ∧ some (SV.c (q9_12 x)) = some (SV.c (q9_12 x)) ∧ q9_60 x ∧ q9_61 ∧ q9_66 b x) ∧ q9_67 y_8 ∧ q9_68 y_8 ∧ q9_67 y_8 ∧ q9_68 y_8 ∧
  q9_69 ∧ q9_69 ∧ q9_69 ∧ q9_69 ∧ q9_69 ∧ q9_69 ∧ q9_69 ∧ q9_69 ∧ q9_69 ∧ q9_69 ∧ q9_70 y_7 y_4 y_1) (q9_76 y_10 y_16)) (∃ (g0 : Nat), g0 ≤ (6 : Nat) ∧ (0 : Int) = q9_8 g0 ∧
  q9_13 y_7 g0 y_9 ∧ q9_14 y_7 g0 y_9 ∧ q9_15 y_7 g0 y_9 ∧ q9_16 y_7 g0 y_9 ∧ q9_17 y_7 g0 y_9 ∧ q9_18 y_7 g0 y_9 ∧ q9_19 y_7 g0 y_9 ∧ q9_20 y_7 g0 y_9 ∧
  q9_21 y_7 g0 y_9 ∧ q9_22 y_7 g0 y_9 ∧ q9_23 y_7 g0 y_9 ∧ q9_24 y_7 g0 y_9 ∧ q9_25 y_7 g0 y_9 ∧ q9_26 y_7 g0 y_9 ∧ q9_27 y_7 g0 y_9 ∧ q9_28 y_7 g0 y_9 ∧
  q9_29 y_7 g0 y_9 ∧ q9_30 y_7 g0 y_9 ∧ q9_31 y_7 g0 y_9 ∧ q9_32 y_7 g0 y_9 ∧ q9_33 y_7 g0 y_9 ∧ q9_34 y_7 g0 y_9 ∧ q9_35 y_7 g0 y_9 ∧ q9_36 y_7 g0 y_9 ∧
  q9_37 y_7 g0 y_9 ∧ q9_38 y_7 g0 y_9 ∧ q9_39 y_7 g0 y_9 ∧ q9_40 y_7 g0 y_9 ∧ q9_41 y_7 g0 y_9 ∧ q9_42 y_7 g0 y_9 ∧ q9_43 y_7 g0 y_9 ∧ q9_44 y_7 g0 y_9 ∧
  q9_45 y_7 g0 y_9 ∧ q9_46 y_7 g0 y_9 ∧ q9_13 y_7 g0 y_9 ∧ q9_14 y_7 g0 y_9 ∧ q9_15 y_7 g0 y_9 ∧ q9_16 y_7 g0 y_9 ∧ q9_17 y_7 g0 y_9 ∧ q9_23 y_7 g0 y_9 ∧
  q9_24 y_7 g0 y_9 ∧ q9_25 y_7 g0 y_9 ∧ q9_26 y_7 g0 y_9 ∧ q9_28 y_7 g0 y_9 ∧ q9_29 y_7 g0 y_9 ∧ q9_27 y_7 g0 y_9 ∧ q9_18 y_7 g0 y_9 ∧ q9_19 y_7 g0 y_9 ∧
  q9_21 y_7 g0 y_9 ∧ q9_20 y_7 g0 y_9 ∧ q9_22 y_7 g0 y_9 ∧ q9_47 ∧ q9_48 ∧ q9_30 y_7 g0 y_9 ∧ q9_31 y_7 g0 y_9 ∧ q9_32 y_7 g0 y_9 ∧ q9_33 y_7 g0 y_9 ∧ q9_34 y_7 g0 y_9 ∧
  q9_40 y_7 g0 y_9 ∧ q9_41 y_7 g0 y_9 ∧ q9_42 y_7 g0 y_9 ∧ q9_43 y_7 g0 y_9 ∧ q9_45 y_7 g0 y_9 ∧ q9_46 y_7 g0 y_9 ∧ q9_44 y_7 g0 y_9 ∧ q9_35 y_7 g0 y_9 ∧
  q9_36 y_7 g0 y_9 ∧ q9_38 y_7 g0 y_9 ∧ q9_37 y_7 g0 y_9 ∧ q9_39 y_7 g0 y_9 ∧ q9_47 ∧ q9_48 ∧ q9_49 y_7 g0 y_9 ∧ q9_50 y_7 g0 y_9 ∧ y_7.now = (ebbF g0 y_9).now ∧
  y_7.draw = (ebbF g0 y_9).draw ∧ false = false ∧ y_7.u = (ebbF g0 y_9).u ∧ y_7.t = (ebbF g0 y_9).t ∧ (true && true && true) = true ∧
  ∀ (g : Nat), have y_10 := ebbF g y_9; have y_11 := q9_3 y_10; have y_12 := q9_4 y_10; have y_13 := calmF (Int.toNat (20 : Int)) (q9_5 y_10 y_11 y_12); have y_14 := calmF (Int.toNat (2 : Int)) (q9_5 y_10 y_11 y_12);
  have y_15 := q9_3 y_14; have y_16 := q9_4 y_14; have y_17 := moveF (q9_5 y_14 y_15 y_16) (MvR.mk (7 : Int) (0 : Int) (0 : Int)); have y_18 := q9_53 y_17;
  g ≤ (6 : Nat) → True ∧ sw (decide (q9_8 g < (6 : Int))) (q9_54 y_10 ∧ q9_55 y_14 ∧ q9_56 y_17 ∧ True ∧ ∃ (g' : Nat), g' ≤ (6 : Nat) ∧ (6 : Nat) - g' < (6 : Nat) - g ∧
  (IntKind.i64.wrap (q9_8 g + (1 : Int)) = q9_8 g' ∧ q9_13 y_18 g' y_9 ∧ q9_14 y_18 g' y_9 ∧ q9_15 y_18 g' y_9 ∧ q9_16 y_18 g' y_9 ∧ q9_17 y_18 g' y_9 ∧ q9_18 y_18 g' y_9 ∧
  q9_19 y_18 g' y_9 ∧ q9_20 y_18 g' y_9 ∧ q9_21 y_18 g' y_9 ∧ q9_22 y_18 g' y_9 ∧ q9_23 y_18 g' y_9 ∧ q9_24 y_18 g' y_9 ∧ q9_25 y_18 g' y_9 ∧ q9_26 y_18 g' y_9 ∧
  q9_27 y_18 g' y_9 ∧ q9_28 y_18 g' y_9 ∧ q9_29 y_18 g' y_9 ∧ q9_30 y_18 g' y_9 ∧ q9_31 y_18 g' y_9 ∧ q9_32 y_18 g' y_9 ∧ q9_33 y_18 g' y_9 ∧ q9_34 y_18 g' y_9 ∧
  q9_35 y_18 g' y_9 ∧ q9_36 y_18 g' y_9 ∧ q9_37 y_18 g' y_9 ∧ q9_38 y_18 g' y_9 ∧ q9_39 y_18 g' y_9 ∧ q9_40 y_18 g' y_9 ∧ q9_41 y_18 g' y_9 ∧ q9_42 y_18 g' y_9 ∧
  q9_43 y_18 g' y_9 ∧ q9_44 y_18 g' y_9 ∧ q9_45 y_18 g' y_9 ∧ q9_46 y_18 g' y_9 ∧ q9_13 y_18 g' y_9 ∧ q9_14 y_18 g' y_9 ∧ q9_15 y_18 g' y_9 ∧ q9_16 y_18 g' y_9 ∧
  q9_17 y_18 g' y_9 ∧ q9_23 y_18 g' y_9 ∧ q9_24 y_18 g' y_9 ∧ q9_25 y_18 g' y_9 ∧ q9_26 y_18 g' y_9 ∧ q9_28 y_18 g' y_9 ∧ q9_29 y_18 g' y_9 ∧ q9_27 y_18 g' y_9 ∧
  q9_18 y_18 g' y_9 ∧ q9_19 y_18 g' y_9 ∧ q9_21 y_18 g' y_9 ∧ q9_20 y_18 g' y_9 ∧ q9_22 y_18 g' y_9 ∧ q9_47 ∧ q9_48 ∧ q9_30 y_18 g' y_9 ∧ q9_31 y_18 g' y_9 ∧
  q9_32 y_18 g' y_9 ∧ q9_33 y_18 g' y_9 ∧ q9_34 y_18 g' y_9 ∧ q9_40 y_18 g' y_9 ∧ q9_41 y_18 g' y_9 ∧ q9_42 y_18 g' y_9 ∧ q9_43 y_18 g' y_9 ∧ q9_45 y_18 g' y_9 ∧
  q9_46 y_18 g' y_9 ∧ q9_44 y_18 g' y_9 ∧ q9_35 y_18 g' y_9 ∧ q9_36 y_18 g' y_9 ∧ q9_38 y_18 g' y_9 ∧ q9_37 y_18 g' y_9 ∧ q9_39 y_18 g' y_9 ∧ q9_47 ∧ q9_48 ∧
  q9_49 y_18 g' y_9 ∧ q9_50 y_18 g' y_9 ∧ y_18.now = (ebbF g' y_9).now ∧ y_18.draw = (ebbF g' y_9).draw ∧ false = false ∧ y_18.u = (ebbF g' y_9).u ∧ y_18.t = (ebbF g' y_9).t ∧
  (true && true && true && true) = true) ∧
  q9_66 b x ∧ q9_70 y_7 y_4 y_1) (q9_76 y_10 y_13)) := by
  delta q9_1 q9_2 q9_3 q9_4 q9_5 q9_6 q9_7 q9_8 q9_9 q9_10 q9_11 q9_12 q9_13 q9_14 q9_15 q9_16 q9_17 q9_18 q9_19 q9_20 q9_21 q9_22 q9_23 q9_24 q9_25
    q9_26 q9_27 q9_28 q9_29 q9_30 q9_31 q9_32 q9_33 q9_34 q9_35 q9_36 q9_37 q9_38 q9_39 q9_40 q9_41 q9_42 q9_43 q9_44 q9_45 q9_46 q9_47 q9_48 q9_49
    q9_50 q9_53 q9_54 q9_55 q9_56 q9_57 q9_58 q9_59 q9_60 q9_61 q9_62 q9_63 q9_64 q9_65 q9_66 q9_67 q9_68 q9_69 q9_70 q9_71 q9_72 q9_73 q9_74 q9_75
    q9_76 iO
   
  intro y y_1 y_2 y_3 y_4 y_5 y_6 x y_7 y_8 b y_9 h0 h1
  have e0 : y = opens := opens_read
  have e1 : y_1 = grownF opens 1 := by
    show grownF y (min 120 y.length) = _
    rw [e0]; rfl
  have e4 : y_4 = knowF := by
    have h : PrR.mk y_1.a y_1.b y_2 y_3 y_1.now y_1.draw y_1.u y_1.t = grownF opens 1 := (pr_read y_1).trans e1
    exact congrArg (calmF 5) h
  have ex : IntKind.i64.wrap (x.tmod 2) = x % 2 := by rw [Int.tmod_eq_emod_of_nonneg h0]; exact wrap_i64_id (by omega) (by omega)
  have ey : IntKind.i64.wrap (1 - IntKind.i64.wrap (x.tmod 2)) = 1 - x % 2 := by rw [ex]; exact wrap_i64_id (by omega) (by omega)
  have e7 : y_7 = moveF knowF ⟨6, x % 2, 0⟩ := by
    have h : PrR.mk y_4.a y_4.b y_5 y_6 y_4.now y_4.draw y_4.u y_4.t = knowF := (pr_read y_4).trans e4
    show moveF (PrR.mk y_4.a y_4.b y_5 y_6 y_4.now y_4.draw y_4.u y_4.t) ⟨6, IntKind.i64.wrap (x.tmod 2), 0⟩ = _
    rw [h, ex]
  have e8 : y_8 = moveF (moveF knowF ⟨6, x % 2, 0⟩) ⟨6, 1 - x % 2, 0⟩ := by
    have h := (pr_read y_7).trans e7
    show moveF (PrR.mk y_7.a y_7.b (ltrsOf (D.recs 4 y_7.v.length (ltrCell y_7.v))) (ltrsOf (D.recs 4 y_7.w.length (ltrCell y_7.w))) y_7.now y_7.draw y_7.u y_7.t) ⟨6, IntKind.i64.wrap (1 - IntKind.i64.wrap (x.tmod 2)), 0⟩ = _
    rw [h, ey]
  have e9 : y_9 = byesF x b := rfl
  have k1 : okP 500 y_1 := by rw [e1]; exact (grown_ok opens 1 (by omega)).mono (by omega) (by omega)
  have k4 : okP 1900 y_4 := by rw [e4]; exact knows_ok.mono (by omega) (by omega)
  have k7 : okP 1900 y_7 := by rw [e7]; exact (okPr.moved (M := 6) (N := 11) knows_ok (by omega) _).mono (by omega) (by omega)
  clear_value y_8 y_7 y_6 y_5 y_4 y_3 y_2 y_1 y
  refine ⟨⟨opens, _, rfl, by rw [size78]; exact asMv_one rfl rfl rfl, by decide⟩, rfl, ⟨y_1, 5, rfl, by omega, k1⟩, by decide, ⟨y_4, ⟨6, IntKind.i64.wrap (x.tmod 2), 0⟩, rfl, k4⟩, ?_⟩
  rw [sw_iff]
  refine ⟨fun hb => ?_, fun hb => ?_⟩
  · refine ⟨trivial, ⟨y_7, ⟨6, IntKind.i64.wrap (1 - IntKind.i64.wrap (x.tmod 2)), 0⟩, rfl, k7⟩, ?_⟩
    refine ⟨0, by omega, rfl, ?_⟩
    have hp : y_9 = y_8 := by rw [e9, hb, e8]; rfl
    clear_value y_9
    subst hp
    have hz : ebbF 0 y_9 = y_9 := rfl
    rw [hz]
    repeat' (first | exact rfl | exact trivial | (intro i hi j hj; exact rfl) | apply And.intro)
    intro g y_10 y_11 y_12 y_13 y_14 y_15 y_16 y_17 y_18 hg
    have f10 : y_10 = ebbF g y_9 := rfl
    have f2 : y_13 = calmF 2 y_10 := congrArg (calmF 2) (pr_read y_10)
    have f20 : y_16 = calmF 20 y_10 := congrArg (calmF 20) (pr_read y_10)
    have f17 : y_17 = moveF y_13 ⟨7, 0, 0⟩ := congrArg (fun p => moveF p ⟨7, 0, 0⟩) (pr_read y_13)
    have f18 : y_18 = moveF y_17 ⟨7, 1, 0⟩ := congrArg (fun p => moveF p ⟨7, 1, 0⟩) (pr_read y_17)
    have fe : ebbF (g + 1) y_9 = y_18 := by rw [ebb_succ, f18, f17, f2, f10]
    have k10 : okPr 100 100 y_10 := by rw [f10, e9]; exact (ebb_ok x b g (by omega)).mono (by omega) (by omega)
    have k2 : okPr 102 104 y_13 := by rw [f2]; exact k10.calm 2 (by omega)
    have k17 : okPr 103 105 y_17 := by rw [f17]; exact k2.moved (by omega) _
    have fl : g = 6 → y_16 = goneF x b := by rintro rfl; rw [f20, f10, e9]; rfl
    clear_value y_18 y_17 y_16 y_13 y_15 y_14 y_12 y_11 y_10
    refine ⟨trivial, ?_⟩
    rw [sw_iff]
    refine ⟨fun hl => ?_, fun hl => ?_⟩
    · have hl : (g : Int) < 6 := of_decide_eq_true hl
      refine ⟨⟨y_10, 2, rfl, by omega, k10.mono (by omega) (by omega)⟩, ⟨y_13, ⟨7, 0, 0⟩, rfl, k2.mono (by omega) (by omega)⟩, ⟨y_17, ⟨7, 1, 0⟩, rfl, k17.mono (by omega) (by omega)⟩, trivial, g + 1, by omega, by omega, ?_⟩
      rw [fe]
      have hw : IntKind.i64.wrap ((g : Int) + 1) = ((g + 1 : Nat) : Int) := by rw [wrap_i64_id (by omega) (by omega)]; omega
      repeat' (first | exact hw | exact rfl | exact trivial | (intro i hi j hj; exact rfl) | apply And.intro)
    · have hl : ¬ (g : Int) < 6 := of_decide_eq_false hl
      have fl := fl (by omega)
      obtain ⟨g1, g2, g3, g4⟩ := gone_law x b
      rw [← fl] at g1 g2 g3 g4
      refine ⟨⟨y_10, 20, rfl, by omega, k10.mono (by omega) (by omega)⟩, by decide, ⟨y_16.a, rfl⟩, trivial, ?_⟩
      rw [sw_iff]
      refine ⟨fun _ => ⟨by decide, ⟨y_16.b, rfl⟩, trivial, ?_⟩, fun h => absurd g1 (of_decide_eq_false h)⟩
      rw [sw_iff]
      refine ⟨fun _ => ⟨by decide, ?_⟩, fun h => absurd g2 (of_decide_eq_false h)⟩
      rw [sw_iff]
      exact ⟨fun _ => ⟨by decide, by rw [g4]; rfl, rfl⟩, fun h => by rw [g3] at h; cases h⟩
  · refine ⟨0, by omega, rfl, ?_⟩
    have hp : y_9 = y_7 := by rw [e9, hb, e7]; rfl
    clear_value y_9
    subst hp
    have hz : ebbF 0 y_9 = y_9 := rfl
    rw [hz]
    repeat' (first | exact rfl | exact trivial | (intro i hi j hj; exact rfl) | apply And.intro)
    intro g y_10 y_11 y_12 y_13 y_14 y_15 y_16 y_17 y_18 hg
    have f10 : y_10 = ebbF g y_9 := rfl
    have f2 : y_14 = calmF 2 y_10 := congrArg (calmF 2) (pr_read y_10)
    have f20 : y_13 = calmF 20 y_10 := congrArg (calmF 20) (pr_read y_10)
    have f17 : y_17 = moveF y_14 ⟨7, 0, 0⟩ := congrArg (fun p => moveF p ⟨7, 0, 0⟩) (pr_read y_14)
    have f18 : y_18 = moveF y_17 ⟨7, 1, 0⟩ := congrArg (fun p => moveF p ⟨7, 1, 0⟩) (pr_read y_17)
    have fe : ebbF (g + 1) y_9 = y_18 := by rw [ebb_succ, f18, f17, f2, f10]
    have k10 : okPr 100 100 y_10 := by rw [f10, e9]; exact (ebb_ok x b g (by omega)).mono (by omega) (by omega)
    have k2 : okPr 102 104 y_14 := by rw [f2]; exact k10.calm 2 (by omega)
    have k17 : okPr 103 105 y_17 := by rw [f17]; exact k2.moved (by omega) _
    have fl : g = 6 → y_13 = goneF x b := by rintro rfl; rw [f20, f10, e9]; rfl
    clear_value y_18 y_17 y_13 y_14 y_16 y_15 y_12 y_11 y_10
    refine ⟨trivial, ?_⟩
    rw [sw_iff]
    refine ⟨fun hl => ?_, fun hl => ?_⟩
    · have hl : (g : Int) < 6 := of_decide_eq_true hl
      refine ⟨⟨y_10, 2, rfl, by omega, k10.mono (by omega) (by omega)⟩, ⟨y_14, ⟨7, 0, 0⟩, rfl, k2.mono (by omega) (by omega)⟩, ⟨y_17, ⟨7, 1, 0⟩, rfl, k17.mono (by omega) (by omega)⟩, trivial, g + 1, by omega, by omega, ?_⟩
      rw [fe]
      have hw : IntKind.i64.wrap ((g : Int) + 1) = ((g + 1 : Nat) : Int) := by rw [wrap_i64_id (by omega) (by omega)]; omega
      repeat' (first | exact hw | exact rfl | exact trivial | (intro i hi j hj; exact rfl) | apply And.intro)
    · have hl : ¬ (g : Int) < 6 := of_decide_eq_false hl
      have fl := fl (by omega)
      obtain ⟨g1, g2, g3, g4⟩ := gone_law x b
      rw [← fl] at g1 g2 g3 g4
      refine ⟨⟨y_10, 20, rfl, by omega, k10.mono (by omega) (by omega)⟩, by decide, ⟨y_13.a, rfl⟩, trivial, ?_⟩
      rw [sw_iff]
      refine ⟨fun _ => ⟨by decide, ⟨y_13.b, rfl⟩, trivial, ?_⟩, fun h => absurd g1 (of_decide_eq_false h)⟩
      rw [sw_iff]
      refine ⟨fun _ => ⟨by decide, ?_⟩, fun h => absurd g2 (of_decide_eq_false h)⟩
      rw [sw_iff]
      exact ⟨fun _ => ⟨by decide, by rw [g4]; rfl, rfl⟩, fun h => by rw [g3] at h; cases h⟩
set_option maxRecDepth 100000 in
theorem ok9 : FnIs Try.prog 9 partsC := by
  refine fnIs (C := (ctrs l12)) (by kernel_rfl) l12_ok Try.func9 (code := code9) (by kernel_rfl) (by kernel_rfl) ?_
  rintro a ⟨x, b, rfl, h0, h1⟩
  exact ⟨anns [(10, ebbA (byesF x b))] [2, 16], kcast (vc9 x b h0 h1) (by kernel_rfl)⟩

end Go.ZR
