/- Part 7 of what the closing text rests on. -/
import Derived.Test.YtonfaeenoifomaaH6
import Derived.Test.YtonfaeenoifomaaRows
/- Bytes and numbers: contracts. -/
namespace Go.ZR
open Go.Z
def vi : D → Int
  | .v (.int _ n) => n
  | _ => 0
def vb : D → Bool
  | .v (.bool b) => b
  | _ => false
def vl : D → List Int
  | .ints _ l => l
  | _ => []
end Go.ZR
namespace Go.ZM
open Go.Z Go.ZR
def sm (n : Nat) : Prop := n ≤ 1099511627776
def okI (n : Int) : Prop := -2199023255552 ≤ n ∧ n ≤ 2199023255552
/-- Some bytes; or why there are none. -/
def partF (b : List Int) (i n : Int) : List Int × Int :=
  if i < 0 ∨ n < 0 then ([], 1) else if (b.length : Int) < i ∨ (b.length : Int) - i < n then ([], 3) else ((b.drop i.toNat).take n.toNat, 0)
def getF (b : List Int) (i : Int) (k : Nat) : Int × Int := (valF (partF b i k).1, (partF b i k).2)
theorem part_ok {b : List Int} (h : okB b) (i n : Int) : okB (partF b i n).1 := by
  unfold partF
  split
  · exact fun x hx => by cases hx
  split
  · exact fun x hx => by cases hx
  · exact okB_take (okB_drop h _) _
theorem part_len {b : List Int} {i : Int} {k : Nat} : (partF b i k).1.length ≤ k := by
  unfold partF
  split
  · exact Nat.zero_le _
  split
  · exact Nat.zero_le _
  · rw [Int.toNat_natCast]; exact List.length_take_le _ _
end Go.ZM
namespace Go.ZR
open Go.Z Go.ZM
def iO (k : IntKind) (n : Int) : O := .d (.v (.int k n))
def bO (b : Bool) : O := .d (.v (.bool b))
def sO (s : ByteArray) : O := .d (.v (.string s))
def bsO (l : List Int) : O := .d (.ints .u8 l)
def bsN (l : List Int) : O := .own 5 (.ints .u8 l)
def dO : O → D
  | .d x => x
  | _ => .v (.bool false)
def at_ (a : List O) (i : Nat) : O := a.getD i .any
/-- A contract: what is read is lent; results that are new. -/
def nC (n : Nat) (quiet : Bool) (pre : List O → Prop) (res : List O → List O) : Ctr where
  own := []
  pre := pre
  res := res
  upd := fun _ => List.replicate n .any
  ro := false
  quiet := quiet
def cloneC : Ctr := nC 1 false (fun a => ∃ l, a = [bsO l] ∧ sm l.length) fun a => [bsN (vl (dO (at_ a 0)))]
def padC : Ctr := nC 1 true (fun a => ∃ n : Nat, a = [iO .i64 n] ∧ n ≤ 2199023255552) fun a => [iO .i64 (padN (vi (dO (at_ a 0))).toNat : Nat)]
def paddedC : Ctr := nC 1 false (fun a => ∃ l, a = [bsO l] ∧ sm l.length) fun a => [bsN (padF (vl (dO (at_ a 0))))]
def putC : Ctr := nC 3 false (fun a => ∃ (b : List Int) (n : Int) (k : Nat), a = [bsO b, iO .u64 n, iO .i64 k] ∧ sm b.length ∧ 1 ≤ k ∧ k ≤ 8) fun a =>
  [bsN (vl (dO (at_ a 0)) ++ be (vi (dO (at_ a 1))) (vi (dO (at_ a 2))).toNat)]
def partA (a : List O) : List Int × Int := partF (vl (dO (at_ a 0))) (vi (dO (at_ a 1))) (vi (dO (at_ a 2)))
def partC : Ctr := nC 3 false (fun a => ∃ (b : List Int) (i n : Int), a = [bsO b, iO .i64 i, iO .i64 n] ∧ sm b.length ∧ okI i ∧ okI n) fun a => [bsN (partA a).1, iO .i64 (partA a).2]
def getA (a : List O) : Int × Int := getF (vl (dO (at_ a 0))) (vi (dO (at_ a 1))) (vi (dO (at_ a 2))).toNat
def getC (m : Nat) : Ctr := nC 3 false (fun a => ∃ (b : List Int) (i : Int) (k : Nat), a = [bsO b, iO .i64 i, iO .i64 k] ∧ sm b.length ∧ okB b ∧ okI i ∧ 1 ≤ k ∧ k ≤ m) fun a => [iO .u64 (getA a).1, iO .i64 (getA a).2]
def numC : Ctr := nC 3 false (fun a => ∃ (b : List Int) (i : Int) (k : Nat), a = [bsO b, iO .i64 i, iO .i64 k] ∧ sm b.length ∧ okB b ∧ okI i ∧ 1 ≤ k ∧ k ≤ 7) fun a => [iO .i64 (getA a).1]

def putAnn (b : List Int) (n : Int) (k : Nat) : LoopAnn where
  γ := Nat
  pre := fun j => j ≤ k
  μ := fun j => k - j
  items := fun j => [(19, .c (iO .i64 (j : Int))), (7, .c (bsN (b ++ (be n k).take j)))]
def putAnn' (b : List Int) (n : Int) (k : Nat) : LoopAnn where
  γ := Nat
  pre := fun j => j ≤ k
  μ := fun j => k - j
  items := fun j => [(8, .c (iO .i64 ((k : Int) - 1 - (j : Int)))), (7, .c (bsN (b ++ (be n k).take j)))]
def zAnn (b : List Int) : LoopAnn where
  γ := Nat
  pre := fun j => j ≤ padN b.length
  μ := fun j => padN b.length - j
  items := fun j => [(3, .c (bsN (b ++ List.replicate j 0)))]
def valAnn (s t : Nat) (p : List Int) : LoopAnn where
  γ := Nat
  pre := fun j => j ≤ p.length
  μ := fun j => p.length - j
  items := fun j => [(s, .c (iO .i64 (j : Int))), (t, .c (iO .u64 (valF (p.take j))))]
def c0 : List (Nat × Ctr) := []
def c1 : List (Nat × Ctr) := [(54, cloneC), (67, padC)]
def c2 : List (Nat × Ctr) := [(57, partC), (74, partC)]
def c3 : List (Nat × Ctr) := [(66, getC 8)]
theorem c0_ok {P : Program} : COk P (ctrs c0) := cok_nil
end Go.ZR

/- Bytes and numbers: walks -/
namespace Go.ZR
open Go.Proofs
open Go.Z Go.ZM Go.RowKit
set_option maxRecDepth 100000
theorem bytes5 : Try.prog.types[(5 : Nat)].bytes = 1 := by kernel_rfl
theorem part_get {b : List Int} {i n : Int} (h0 : 0 ≤ i) (h1 : 0 ≤ n) (h2 : i ≤ b.length) (h3 : n ≤ b.length - i) : partF b i n = ((b.drop i.toNat).take n.toNat, 0) := by
  unfold partF; rw [if_neg (by omega), if_neg (by omega)]
theorem part_err (b : List Int) (i n : Int) : (partF b i n).2 ≠ 0 → (partF b i n).1 = [] := by
  unfold partF
  split
  · intro _; rfl
  split
  · intro _; rfl
  · intro h; exact absurd rfl h
theorem be_step {b : List Int} {n : Int} {g k : Nat} (hg : g < k) : b ++ (be n k).take g ++ [(n / 256 ^ (k - 1 - g)) % 256] = b ++ (be n k).take (g + 1) := by
  rw [take_succ_getD (by rw [be_len]; exact hg), be_get n hg, List.append_assoc]
theorem val_small {l : List Int} (h : okB l) (hl : l.length ≤ 7) : 0 ≤ valF l ∧ valF l < 256 ^ 7 := by
  have h1 := val_lt h
  have h2 : (256 : Int) ^ l.length ≤ 256 ^ 7 := by
    have : ∀ k : Nat, k ≤ 7 → (256 : Int) ^ k ≤ 256 ^ 7 := by decide
    exact this _ hl
  exact ⟨val_nonneg h, by omega⟩
noncomputable def code54 : Code := match Try.f54.body with | some c => c | none => .skip
set_option maxHeartbeats 4000000 in
theorem vc54 : ∀ (l : List Int), sm l.length → ∀ (t : Bool), (t = true → l.length = (0 : Nat)) → sw t (vl (D.ints IntKind.u8 l) = [] ∧ (true && true) = true) (True ∧ ((0 : Nat) + l.length) * Try.prog.types[(5 : Nat)].bytes ≤ (140737488355328 : Nat) ∧
  [] ++ l = vl (D.ints IntKind.u8 l) ∧ (!false && true && true) = true) := by
  simp only [↓sw_iff, true_and, and_true, Bool.and_self, Bool.not_false, vl, Nat.zero_add, List.nil_append, Nat.mul_one, bytes5]
  intro l h t ht
  unfold sm at h
  exact ⟨fun e => by have := ht e; exact List.length_eq_zero_iff.1 this, fun _ => by omega⟩
set_option maxRecDepth 100000 in
theorem ok54 : FnIs Try.prog 54 cloneC := by
  refine fnIs (C := (ctrs c0)) (by kernel_rfl) c0_ok Try.func54 (code := code54) (by kernel_rfl) (by kernel_rfl) ?_
  rintro a ⟨l, rfl, h⟩
  exact ⟨anns [], kcast (vc54 l h) (by kernel_rfl)⟩

noncomputable def code67 : Code := match Try.f67.body with | some c => c | none => .skip
set_option maxHeartbeats 4000000 in
theorem vc67 : ∀ (n : Nat), n ≤ (2199023255552 : Nat) → True ∧ True ∧ bits BinOp.and IntKind.i64 (IntKind.i64.wrap ((0 : Int) - (↑n : Int))) (3 : Int) = (↑(padN (vi (D.v (Value.int IntKind.i64 (↑n : Int)))).toNat) : Int) ∧
  (true && true) = true := by
  simp only [true_and, and_true, Bool.and_self, Int.toNat_natCast, vi]
  intro n h
  exact and_three
set_option maxRecDepth 100000 in
theorem ok67 : FnIs Try.prog 67 padC := by
  refine fnIs (C := (ctrs c0)) (by kernel_rfl) c0_ok Try.func67 (code := code67) (by kernel_rfl) (by kernel_rfl) ?_
  rintro a ⟨n, rfl, h⟩
  exact ⟨anns [], kcast (vc67 n h) (by kernel_rfl)⟩

theorem c1_ok : COk Try.prog (ctrs c1) := cok_cons ok54 (cok_cons ok67 cok_nil)

noncomputable def code51 : Code := match Try.f51.body with | some c => c | none => .skip
set_option maxHeartbeats 4000000 in
theorem vc51 : ∀ (n : Nat), n ≤ (2199023255552 : Nat) → True ∧ (4 : Int) ≠ (0 : Int) ∧ True ∧ sw (decide ((↑n : Int).tmod (4 : Int) = (0 : Int))) ((0 : Int) = (↑(padN (vi (D.v (Value.int IntKind.i64 (↑n : Int)))).toNat) : Int) ∧
  (true && true) = true) ((4 : Int) ≠ (0 : Int) ∧ True ∧ IntKind.i64.wrap ((4 : Int) - (↑n : Int).tmod (4 : Int)) = (↑(padN (vi (D.v (Value.int IntKind.i64 (↑n : Int)))).toNat) : Int) ∧
  (true && true) = true) := by
  simp only [↓sw_iff, ↓decide_eq_true_eq, ↓decide_eq_false_iff_not, true_and, and_true, Bool.and_self, Int.toNat_natCast, vi]
  intro n h
  have e : (n : Int).tmod 4 = ((n % 4 : Nat) : Int) := rfl
  rw [e]
  refine ⟨by decide, fun h => ?_, fun h => ⟨by decide, ?_⟩⟩
  · have := h
    unfold padN; omega
  · have := h
    rw [wrap_i64_id (by omega) (by omega)]
    unfold padN; omega
set_option maxRecDepth 100000 in
theorem ok51 : FnIs Try.prog 51 padC := by
  refine fnIs (C := (ctrs c0)) (by kernel_rfl) c0_ok Try.func51 (code := code51) (by kernel_rfl) (by kernel_rfl) ?_
  rintro a ⟨n, rfl, h⟩
  exact ⟨anns [] [1], kcast (vc51 n h) (by kernel_rfl)⟩

noncomputable def code46 : Code := match Try.f46.body with | some c => c | none => .skip
set_option maxHeartbeats 4000000 in
theorem vc46 : ∀ (l : List Int), sm l.length → (∃ (l_1 : List Int), [O.d (D.ints IntKind.u8 l)] = [O.d (D.ints IntKind.u8 l_1)] ∧ sm l_1.length) ∧ (∃ (n : Nat), [O.d (D.v (Value.int IntKind.i64 (↑l.length : Int)))] = [O.d (D.v (Value.int IntKind.i64 (↑n : Int)))] ∧
  n ≤ (2199023255552 : Nat)) ∧ ((0 : Int) ≤ (↑(padN (vi (D.v (Value.int IntKind.i64 (↑l.length : Int)))).toNat) : Int) ∧ (↑(padN (vi (D.v (Value.int IntKind.i64 (↑l.length : Int)))).toNat) : Int) ≤ (9223372036854775807 : Int) ∧
  (↑(padN (vi (D.v (Value.int IntKind.i64 (↑l.length : Int)))).toNat) : Int).toNat * Try.prog.types[(5 : Nat)].bytes ≤ (281474976710656 : Nat) ∧ IntKind.u8 = IntKind.u8) ∧
  ((vl (D.ints IntKind.u8 l)).length + (List.replicate (↑(padN (vi (D.v (Value.int IntKind.i64 (↑l.length : Int)))).toNat) : Int).toNat (0 : Int)).length) * Try.prog.types[(5 : Nat)].bytes ≤ (140737488355328 : Nat) ∧
  vl (D.ints IntKind.u8 l) ++ List.replicate (↑(padN (vi (D.v (Value.int IntKind.i64 (↑l.length : Int)))).toNat) : Int).toNat (0 : Int) = padF (vl (D.ints IntKind.u8 l)) ∧
  (!false && true && true) = true := by
  simp only [and_true, Bool.and_self, Bool.not_false, Int.toNat_natCast, vi, vl, Nat.mul_one, bytes5, List.length_replicate]
  intro l h
  have hp := padN_le l.length
  refine ⟨⟨l, rfl, h⟩, ⟨l.length, rfl, ?_⟩, ⟨by omega, by omega, by omega⟩, ?_, rfl⟩ <;> unfold sm at h <;> omega
set_option maxRecDepth 100000 in
theorem ok46 : FnIs Try.prog 46 paddedC := by
  refine fnIs (C := (ctrs c1)) (by kernel_rfl) c1_ok Try.func46 (code := code46) (by kernel_rfl) (by kernel_rfl) ?_
  rintro a ⟨l, rfl, h⟩
  exact ⟨anns [], kcast (vc46 l h) (by kernel_rfl)⟩

noncomputable def code48 : Code := match Try.f48.body with | some c => c | none => .skip
set_option maxHeartbeats 4000000 in
theorem vc48 : ∀ (l : List Int), sm l.length → True ∧ ((0 : Nat) + l.length) * Try.prog.types[(5 : Nat)].bytes ≤ (140737488355328 : Nat) ∧ ∃ (g0 : Nat), g0 ≤ padN l.length ∧
  [] ++ l = l ++ List.replicate g0 (0 : Int) ∧ (!false && true && true) = true ∧ ∀ (g : Nat), g ≤ padN l.length → (4 : Int) ≠ (0 : Int) ∧ True ∧ sw (!decide ((↑(l ++ List.replicate g (0 : Int)).length : Int).tmod (4 : Int) = (0 : Int))) (True ∧
  ((l ++ List.replicate g (0 : Int)).length + (1 : Nat)) * Try.prog.types[(5 : Nat)].bytes ≤ (140737488355328 : Nat) ∧ ∃ (g' : Nat), g' ≤ padN l.length ∧
  padN l.length - g' < padN l.length - g ∧ (l ++ List.replicate g (0 : Int) ++ [(0 : Int)] = l ++ List.replicate g' (0 : Int) ∧ (!false && true && true && ((Nat.ble (3 : Nat) (5 : Nat) || (Nat.beq (2 : Nat) (5 : Nat) || false)) && true)) = true) ∧
  (some (SV.a (2 : Nat)) = some (SV.a (2 : Nat)) ∧ some (SV.a (0 : Nat)) = some (SV.a (0 : Nat)) ∧ some (SV.a (1 : Nat)) = some (SV.a (1 : Nat)) ∧ some SV.nil = some SV.nil ∧
  some (SV.a (0 : Nat)) = some (SV.a (0 : Nat)) ∧ True) ∧ some R.dead = some R.dead ∧ some (R.ro (D.ints IntKind.u8 l)) = some (R.ro (D.ints IntKind.u8 l)) ∧
  True) (l ++ List.replicate g (0 : Int) = padF (vl (D.ints IntKind.u8 l)) ∧ (!false && true && true) = true) := by
  simp only [↓sw_iff, ↓decide_eq_true_eq, ↓decide_eq_false_iff_not, ↓Bool.not_eq_true', ↓Bool.not_eq_false', true_and, and_true, Bool.and_self, Bool.not_false, Bool.or_false, Nat.ble, Nat.beq, vl, Nat.zero_add, List.nil_append, List.length_append, Nat.mul_one, bytes5, List.length_replicate]
  intro l h
  unfold sm at h
  refine ⟨by omega, 0, Nat.zero_le _, by simp, ?_⟩
  intro g hg
  have e : ((l.length + g : Nat) : Int).tmod 4 = (((l.length + g) % 4 : Nat) : Int) := rfl
  rw [e]
  have hp := padN_le l.length
  refine ⟨by decide, fun ht => ⟨by omega, g + 1, ?_, ?_, ?_⟩, fun ht => ?_⟩
  · have : ¬ (((l.length + g) % 4 : Nat) : Int) = 0 := ht
    unfold padN at hg ⊢; omega
  · have : ¬ (((l.length + g) % 4 : Nat) : Int) = 0 := ht
    unfold padN at hg ⊢; omega
  · rw [List.replicate_succ', List.append_assoc]
  · have : (((l.length + g) % 4 : Nat) : Int) = 0 := ht
    have : g = padN l.length := by unfold padN at hg ⊢; omega
    rw [this]; rfl
set_option maxRecDepth 100000 in
theorem ok48 : FnIs Try.prog 48 paddedC := by
  refine fnIs (C := (ctrs c0)) (by kernel_rfl) c0_ok Try.func48 (code := code48) (by kernel_rfl) (by kernel_rfl) ?_
  rintro a ⟨l, rfl, h⟩
  exact ⟨anns [(2, zAnn l)], kcast (vc48 l h) (by kernel_rfl)⟩

noncomputable def code45 : Code := match Try.f45.body with | some c => c | none => .skip
set_option maxHeartbeats 4000000 in
theorem vc45 : ∀ (b : List Int) (n : Int) (k : Nat), sm b.length → (1 : Nat) ≤ k → k ≤ (8 : Nat) → (∃ (l : List Int), [O.d (D.ints IntKind.u8 b)] = [O.d (D.ints IntKind.u8 l)] ∧
  sm l.length) ∧ True ∧ sw (decide ((↑k : Int) < (1 : Int))) (vl (D.ints IntKind.u8 b) = vl (D.ints IntKind.u8 b) ++ be (vi (D.v (Value.int IntKind.u64 n))) (vi (D.v (Value.int IntKind.i64 (↑k : Int)))).toNat ∧
  (!false && true && true) = true) (True ∧ sw (decide ((8 : Int) < (↑k : Int))) (vl (D.ints IntKind.u8 b) = vl (D.ints IntKind.u8 b) ++ be (vi (D.v (Value.int IntKind.u64 n))) (vi (D.v (Value.int IntKind.i64 (↑k : Int)))).toNat ∧
  (!false && true && true) = true) (∃ (g0 : Nat), g0 ≤ k ∧ (0 : Int) = (↑g0 : Int) ∧ vl (D.ints IntKind.u8 b) = b ++ List.take g0 (be n k) ∧ (!false && true && true) = true ∧
  ∀ (g : Nat), g ≤ k → True ∧ sw (decide ((↑g : Int) < (↑k : Int))) (True ∧ True ∧ True ∧ (0 : Int) ≤ IntKind.i64.wrap ((8 : Int) * IntKind.i64.wrap (IntKind.i64.wrap ((↑k : Int) - (1 : Int)) - (↑g : Int))) ∧
  True ∧ ((b ++ List.take g (be n k)).length + (1 : Nat)) * Try.prog.types[(5 : Nat)].bytes ≤ (140737488355328 : Nat) ∧ True ∧ ∃ (g' : Nat), g' ≤ k ∧ k - g' < k - g ∧
  (IntKind.i64.wrap ((↑g : Int) + (1 : Int)) = (↑g' : Int) ∧ b ++ List.take g (be n k) ++ [IntKind.u8.wrap (n.fdiv ((2 : Int) ^ min (IntKind.i64.wrap ((8 : Int) * IntKind.i64.wrap (IntKind.i64.wrap ((↑k : Int) - (1 : Int)) - (↑g : Int)))).toNat IntKind.u64.bits))] = b ++ List.take g' (be n k) ∧
  (!false && true && true && ((Nat.ble (2 : Nat) (4 : Nat) || (Nat.beq (1 : Nat) (4 : Nat) || false)) && true)) = true) ∧ (some (SV.c (Value.int IntKind.i64 (↑k : Int))) = some (SV.c (Value.int IntKind.i64 (↑k : Int))) ∧
  some (SV.c (Value.bool (decide ((8 : Int) < (↑k : Int))))) = some (SV.c (Value.bool (decide ((8 : Int) < (↑k : Int))))) ∧ some (SV.c (Value.bool (decide ((8 : Int) < (↑k : Int))))) = some (SV.c (Value.bool (decide ((8 : Int) < (↑k : Int))))) ∧
  some (SV.c (Value.int IntKind.i64 (↑k : Int))) = some (SV.c (Value.int IntKind.i64 (↑k : Int))) ∧ some (SV.b false) = some (SV.b false) ∧ some (SV.c (Value.bool (decide ((↑k : Int) < (1 : Int))))) = some (SV.c (Value.bool (decide ((↑k : Int) < (1 : Int))))) ∧
  some (SV.c (Value.int IntKind.i64 (↑k : Int))) = some (SV.c (Value.int IntKind.i64 (↑k : Int))) ∧ some (SV.a (1 : Nat)) = some (SV.a (1 : Nat)) ∧ some (SV.a (0 : Nat)) = some (SV.a (0 : Nat)) ∧
  some SV.nil = some SV.nil ∧ some (SV.a (0 : Nat)) = some (SV.a (0 : Nat)) ∧ some (SV.c (Value.int IntKind.u64 n)) = some (SV.c (Value.int IntKind.u64 n)) ∧
  some (SV.c (Value.int IntKind.i64 (↑k : Int))) = some (SV.c (Value.int IntKind.i64 (↑k : Int))) ∧ True) ∧ some (R.ro (D.ints IntKind.u8 b)) = some (R.ro (D.ints IntKind.u8 b)) ∧
  True) (b ++ List.take g (be n k) = vl (D.ints IntKind.u8 b) ++ be (vi (D.v (Value.int IntKind.u64 n))) (vi (D.v (Value.int IntKind.i64 (↑k : Int)))).toNat ∧
  (!false && true && true) = true))) := by
  simp only [↓sw_iff, ↓decide_eq_true_eq, ↓decide_eq_false_iff_not, true_and, and_true, Bool.and_self, Bool.not_false, Bool.or_false, Nat.ble, Nat.beq, Int.toNat_natCast, vi, vl, List.length_append, Nat.mul_one, bytes5]
  intro b n k h h1 h2
  refine ⟨⟨b, rfl, h⟩, fun e => absurd e (by omega), fun _ => ⟨fun e => absurd e (by omega), fun _ => ⟨0, Nat.zero_le _, rfl, by simp, ?_⟩⟩⟩
  unfold sm at h
  intro g hg
  refine ⟨fun ht => ?_, fun ht => ?_⟩
  · have hlt : g < k := by have := ht; omega
    have e : IntKind.i64.wrap (8 * IntKind.i64.wrap (IntKind.i64.wrap ((k : Int) - 1) - (g : Int))) = ((8 * (k - 1 - g) : Nat) : Int) := by
      rw [wrap_i64_id (n := (k : Int) - 1) (by omega) (by omega), wrap_i64_id (n := (k : Int) - 1 - g) (by omega) (by omega), wrap_i64_id (by omega) (by omega)]; omega
    have hl : ((be n k).take g).length ≤ g := List.length_take_le _ _
    rw [e]
    refine ⟨by omega, by omega, g + 1, hlt, by omega, by rw [wrap_i64_id (by omega) (by omega)]; rfl, ?_⟩
    rw [shr_byte _ (by omega), be_step hlt]
  · have : k ≤ g := by have := ht; omega
    rw [List.take_of_length_le (by rw [be_len]; exact this)]
set_option maxRecDepth 100000 in
theorem ok45 : FnIs Try.prog 45 putC := by
  refine fnIs (C := (ctrs c1)) (by kernel_rfl) c1_ok Try.func45 (code := code45) (by kernel_rfl) (by kernel_rfl) ?_
  rintro a ⟨b, n, k, rfl, h, h1, h2⟩
  exact ⟨anns [(5, putAnn b n k)] [2], kcast (vc45 b n k h h1 h2) (by kernel_rfl)⟩

noncomputable def code47 : Code := match Try.f47.body with | some c => c | none => .skip
set_option maxHeartbeats 4000000 in
theorem vc47 : ∀ (b : List Int) (n : Int) (k : Nat), sm b.length → (1 : Nat) ≤ k → k ≤ (8 : Nat) → True ∧ ((0 : Nat) + b.length) * Try.prog.types[(5 : Nat)].bytes ≤ (140737488355328 : Nat) ∧
  True ∧ sw (decide ((↑k : Int) < (1 : Int))) ([] ++ b = vl (D.ints IntKind.u8 b) ++ be (vi (D.v (Value.int IntKind.u64 n))) (vi (D.v (Value.int IntKind.i64 (↑k : Int)))).toNat ∧
  (!false && true && true) = true) (True ∧ sw (decide ((8 : Int) < (↑k : Int))) ([] ++ b = vl (D.ints IntKind.u8 b) ++ be (vi (D.v (Value.int IntKind.u64 n))) (vi (D.v (Value.int IntKind.i64 (↑k : Int)))).toNat ∧
  (!false && true && true) = true) (True ∧ ∃ (g0 : Nat), g0 ≤ k ∧ IntKind.i64.wrap ((↑k : Int) - (1 : Int)) = (↑k : Int) - (1 : Int) - (↑g0 : Int) ∧ [] ++ b = b ++ List.take g0 (be n k) ∧
  (!false && true && true) = true ∧ ∀ (g : Nat), g ≤ k → True ∧ sw (decide ((0 : Int) ≤ (↑k : Int) - (1 : Int) - (↑g : Int))) (True ∧ (0 : Int) ≤ IntKind.u64.wrap (IntKind.i64.wrap ((8 : Int) * ((↑k : Int) - (1 : Int) - (↑g : Int)))) ∧
  True ∧ ((b ++ List.take g (be n k)).length + (1 : Nat)) * Try.prog.types[(5 : Nat)].bytes ≤ (140737488355328 : Nat) ∧ True ∧ ∃ (g' : Nat), g' ≤ k ∧ k - g' < k - g ∧
  (IntKind.i64.wrap ((↑k : Int) - (1 : Int) - (↑g : Int) - (1 : Int)) = (↑k : Int) - (1 : Int) - (↑g' : Int) ∧ b ++ List.take g (be n k) ++ [IntKind.u8.wrap (n.fdiv ((2 : Int) ^ min (IntKind.u64.wrap (IntKind.i64.wrap ((8 : Int) * ((↑k : Int) - (1 : Int) - (↑g : Int))))).toNat IntKind.u64.bits))] = b ++ List.take g' (be n k) ∧
  (!false && true && true && ((Nat.ble (3 : Nat) (5 : Nat) || (Nat.beq (2 : Nat) (5 : Nat) || false)) && true)) = true) ∧ (some (SV.c (Value.int IntKind.i64 (IntKind.i64.wrap ((↑k : Int) - (1 : Int))))) = some (SV.c (Value.int IntKind.i64 (IntKind.i64.wrap ((↑k : Int) - (1 : Int))))) ∧
  some (SV.c (Value.int IntKind.i64 (↑k : Int))) = some (SV.c (Value.int IntKind.i64 (↑k : Int))) ∧ some (SV.c (Value.bool (decide ((8 : Int) < (↑k : Int))))) = some (SV.c (Value.bool (decide ((8 : Int) < (↑k : Int))))) ∧
  some (SV.c (Value.bool (decide ((8 : Int) < (↑k : Int))))) = some (SV.c (Value.bool (decide ((8 : Int) < (↑k : Int))))) ∧ some (SV.c (Value.int IntKind.i64 (↑k : Int))) = some (SV.c (Value.int IntKind.i64 (↑k : Int))) ∧
  some (SV.b false) = some (SV.b false) ∧ some (SV.c (Value.bool (decide ((↑k : Int) < (1 : Int))))) = some (SV.c (Value.bool (decide ((↑k : Int) < (1 : Int))))) ∧
  some (SV.c (Value.int IntKind.i64 (↑k : Int))) = some (SV.c (Value.int IntKind.i64 (↑k : Int))) ∧ some (SV.a (2 : Nat)) = some (SV.a (2 : Nat)) ∧ some (SV.a (0 : Nat)) = some (SV.a (0 : Nat)) ∧
  some (SV.a (1 : Nat)) = some (SV.a (1 : Nat)) ∧ some SV.nil = some SV.nil ∧ some (SV.a (0 : Nat)) = some (SV.a (0 : Nat)) ∧ some (SV.c (Value.int IntKind.u64 n)) = some (SV.c (Value.int IntKind.u64 n)) ∧
  some (SV.c (Value.int IntKind.i64 (↑k : Int))) = some (SV.c (Value.int IntKind.i64 (↑k : Int))) ∧ True) ∧ some R.dead = some R.dead ∧ some (R.ro (D.ints IntKind.u8 b)) = some (R.ro (D.ints IntKind.u8 b)) ∧
  True) (b ++ List.take g (be n k) = vl (D.ints IntKind.u8 b) ++ be (vi (D.v (Value.int IntKind.u64 n))) (vi (D.v (Value.int IntKind.i64 (↑k : Int)))).toNat ∧
  (!false && true && true) = true))) := by
  simp only [↓sw_iff, ↓decide_eq_true_eq, ↓decide_eq_false_iff_not, true_and, and_true, Bool.and_self, Bool.not_false, Bool.or_false, Nat.ble, Nat.beq, Int.toNat_natCast, vi, vl, Nat.zero_add, List.nil_append, List.length_append, Nat.mul_one, bytes5]
  intro b n k h h1 h2
  unfold sm at h
  refine ⟨by omega, fun e => absurd e (by omega), fun _ => ⟨fun e => absurd e (by omega), fun _ => ⟨0, Nat.zero_le _, by rw [wrap_i64_id (by omega) (by omega)]; omega, by simp, ?_⟩⟩⟩
  intro g hg
  refine ⟨fun ht => ?_, fun ht => ?_⟩
  · have hlt : g < k := by have := ht; omega
    have e : IntKind.u64.wrap (IntKind.i64.wrap (8 * ((k : Int) - 1 - (g : Int)))) = ((8 * (k - 1 - g) : Nat) : Int) := by
      rw [wrap_i64_id (by omega) (by omega), IntKind.wrap_u64]; omega
    have hl : ((be n k).take g).length ≤ g := List.length_take_le _ _
    rw [e]
    refine ⟨by omega, by omega, g + 1, hlt, by omega, by rw [wrap_i64_id (by omega) (by omega)]; omega, ?_⟩
    rw [shr_byte _ (by omega), be_step hlt]
  · have : k ≤ g := by have := ht; omega
    rw [List.take_of_length_le (by rw [be_len]; exact this)]
set_option maxRecDepth 100000 in
theorem ok47 : FnIs Try.prog 47 putC := by
  refine fnIs (C := (ctrs c0)) (by kernel_rfl) c0_ok Try.func47 (code := code47) (by kernel_rfl) (by kernel_rfl) ?_
  rintro a ⟨b, n, k, rfl, h, h1, h2⟩
  exact ⟨anns [(5, putAnn' b n k)] [2], kcast (vc47 b n k h h1 h2) (by kernel_rfl)⟩

noncomputable def code57 : Code := match Try.f57.body with | some c => c | none => .skip
set_option maxHeartbeats 4000000 in
theorem vc57 : ∀ (b : List Int) (i n : Int), sm b.length → okI i → okI n → True ∧ sw (decide (i < (0 : Int))) ((partF (vl (D.ints IntKind.u8 b)) (vi (D.v (Value.int IntKind.i64 i))) (vi (D.v (Value.int IntKind.i64 n)))).fst = [] ∧
  (1 : Int) = (partF (vl (D.ints IntKind.u8 b)) (vi (D.v (Value.int IntKind.i64 i))) (vi (D.v (Value.int IntKind.i64 n)))).snd ∧ (true && true) = true) (True ∧
  sw (decide (n < (0 : Int))) ((partF (vl (D.ints IntKind.u8 b)) (vi (D.v (Value.int IntKind.i64 i))) (vi (D.v (Value.int IntKind.i64 n)))).fst = [] ∧ (1 : Int) = (partF (vl (D.ints IntKind.u8 b)) (vi (D.v (Value.int IntKind.i64 i))) (vi (D.v (Value.int IntKind.i64 n)))).snd ∧
  (true && true) = true) (True ∧ sw (decide ((↑b.length : Int) < i)) ((partF (vl (D.ints IntKind.u8 b)) (vi (D.v (Value.int IntKind.i64 i))) (vi (D.v (Value.int IntKind.i64 n)))).fst = [] ∧
  (3 : Int) = (partF (vl (D.ints IntKind.u8 b)) (vi (D.v (Value.int IntKind.i64 i))) (vi (D.v (Value.int IntKind.i64 n)))).snd ∧ (true && true) = true) (True ∧
  True ∧ sw (decide (IntKind.i64.wrap ((↑b.length : Int) - i) < n)) ((partF (vl (D.ints IntKind.u8 b)) (vi (D.v (Value.int IntKind.i64 i))) (vi (D.v (Value.int IntKind.i64 n)))).fst = [] ∧
  (3 : Int) = (partF (vl (D.ints IntKind.u8 b)) (vi (D.v (Value.int IntKind.i64 i))) (vi (D.v (Value.int IntKind.i64 n)))).snd ∧ (true && true) = true) (True ∧
  ((0 : Int) ≤ i ∧ i ≤ IntKind.i64.wrap (i + n) ∧ IntKind.i64.wrap (i + n) ≤ (↑b.length : Int)) ∧ (∃ (l : List Int), [O.d (D.ints IntKind.u8 (List.take ((IntKind.i64.wrap (i + n)).toNat - i.toNat) (List.drop i.toNat b)))] = [O.d (D.ints IntKind.u8 l)] ∧
  sm l.length) ∧ vl (D.ints IntKind.u8 (List.take ((IntKind.i64.wrap (i + n)).toNat - i.toNat) (List.drop i.toNat b))) = (partF (vl (D.ints IntKind.u8 b)) (vi (D.v (Value.int IntKind.i64 i))) (vi (D.v (Value.int IntKind.i64 n)))).fst ∧
  (0 : Int) = (partF (vl (D.ints IntKind.u8 b)) (vi (D.v (Value.int IntKind.i64 i))) (vi (D.v (Value.int IntKind.i64 n)))).snd ∧ (!false && true && true) = true)))) := by
  simp only [↓sw_iff, ↓decide_eq_true_eq, ↓decide_eq_false_iff_not, true_and, and_true, Bool.and_self, Bool.not_false, vi, vl]
  intro b i n h h1 h2
  unfold sm at h
  unfold okI at h1 h2
  have e0 : IntKind.i64.wrap ((b.length : Int) - i) = b.length - i := wrap_i64_id (by omega) (by omega)
  have e1 : IntKind.i64.wrap (i + n) = i + n := wrap_i64_id (by omega) (by omega)
  rw [e0, e1]
  have key : partF b i n = if i < 0 ∨ n < 0 then ([], 1) else if (b.length : Int) < i ∨ (b.length : Int) - i < n then ([], 3) else ((b.drop i.toNat).take n.toNat, 0) := rfl
  refine ⟨fun t => ?_, fun t => ⟨fun t1 => ?_, fun t1 => ⟨fun t2 => ?_, fun t2 => ⟨fun t3 => ?_, fun t3 => ?_⟩⟩⟩⟩
  · rw [key, if_pos (.inl t)]; exact ⟨rfl, rfl⟩
  · rw [key, if_pos (.inr t1)]; exact ⟨rfl, rfl⟩
  · rw [key, if_neg (by have := t; have := t1; omega), if_pos (.inl t2)]; exact ⟨rfl, rfl⟩
  · rw [key, if_neg (by have := t; have := t1; omega), if_pos (.inr t3)]; exact ⟨rfl, rfl⟩
  · have a1 := t; have a2 := t1; have a3 := t2; have a4 := t3
    rw [part_get (by omega) (by omega) (by omega) (by omega), show (i + n).toNat - i.toNat = n.toNat by omega]
    have hl : ((b.drop i.toNat).take n.toNat).length ≤ b.length := by rw [List.length_take, List.length_drop]; omega
    exact ⟨by omega, ⟨_, rfl, by unfold sm; omega⟩, rfl, rfl⟩
set_option maxRecDepth 100000 in
theorem ok57 : FnIs Try.prog 57 partC := by
  refine fnIs (C := (ctrs c1)) (by kernel_rfl) c1_ok Try.func57 (code := code57) (by kernel_rfl) (by kernel_rfl) ?_
  rintro a ⟨b, i, n, rfl, h, h1, h2⟩
  exact ⟨anns [] [1, 3], kcast (vc57 b i n h h1 h2) (by kernel_rfl)⟩

noncomputable def code74 : Code := match Try.f74.body with | some c => c | none => .skip
set_option maxHeartbeats 4000000 in
theorem vc74 : ∀ (b : List Int) (i n : Int), sm b.length → okI i → okI n → True ∧ sw (decide (i < (0 : Int))) ((partF (vl (D.ints IntKind.u8 b)) (vi (D.v (Value.int IntKind.i64 i))) (vi (D.v (Value.int IntKind.i64 n)))).fst = [] ∧
  (1 : Int) = (partF (vl (D.ints IntKind.u8 b)) (vi (D.v (Value.int IntKind.i64 i))) (vi (D.v (Value.int IntKind.i64 n)))).snd ∧ (true && true) = true) (True ∧
  sw (decide (n < (0 : Int))) ((partF (vl (D.ints IntKind.u8 b)) (vi (D.v (Value.int IntKind.i64 i))) (vi (D.v (Value.int IntKind.i64 n)))).fst = [] ∧ (1 : Int) = (partF (vl (D.ints IntKind.u8 b)) (vi (D.v (Value.int IntKind.i64 i))) (vi (D.v (Value.int IntKind.i64 n)))).snd ∧
  (true && true) = true) (True ∧ sw (decide ((↑b.length : Int) < i)) ((partF (vl (D.ints IntKind.u8 b)) (vi (D.v (Value.int IntKind.i64 i))) (vi (D.v (Value.int IntKind.i64 n)))).fst = [] ∧
  (3 : Int) = (partF (vl (D.ints IntKind.u8 b)) (vi (D.v (Value.int IntKind.i64 i))) (vi (D.v (Value.int IntKind.i64 n)))).snd ∧ (true && true) = true) (True ∧
  True ∧ sw (decide (IntKind.i64.wrap ((↑b.length : Int) - i) < n)) ((partF (vl (D.ints IntKind.u8 b)) (vi (D.v (Value.int IntKind.i64 i))) (vi (D.v (Value.int IntKind.i64 n)))).fst = [] ∧
  (3 : Int) = (partF (vl (D.ints IntKind.u8 b)) (vi (D.v (Value.int IntKind.i64 i))) (vi (D.v (Value.int IntKind.i64 n)))).snd ∧ (true && true) = true) (True ∧
  ((0 : Int) ≤ i ∧ i ≤ IntKind.i64.wrap (i + n) ∧ IntKind.i64.wrap (i + n) ≤ (↑b.length : Int)) ∧ True ∧ ((0 : Nat) + (List.take ((IntKind.i64.wrap (i + n)).toNat - i.toNat) (List.drop i.toNat b)).length) * Try.prog.types[(5 : Nat)].bytes ≤ (140737488355328 : Nat) ∧
  [] ++ List.take ((IntKind.i64.wrap (i + n)).toNat - i.toNat) (List.drop i.toNat b) = (partF (vl (D.ints IntKind.u8 b)) (vi (D.v (Value.int IntKind.i64 i))) (vi (D.v (Value.int IntKind.i64 n)))).fst ∧
  (0 : Int) = (partF (vl (D.ints IntKind.u8 b)) (vi (D.v (Value.int IntKind.i64 i))) (vi (D.v (Value.int IntKind.i64 n)))).snd ∧ (!false && true && true) = true)))) := by
  simp only [↓sw_iff, ↓decide_eq_true_eq, ↓decide_eq_false_iff_not, true_and, and_true, Bool.and_self, Bool.not_false, vi, vl, Nat.zero_add, List.nil_append, Nat.mul_one, bytes5]
  intro b i n h h1 h2
  unfold sm at h
  unfold okI at h1 h2
  have e0 : IntKind.i64.wrap ((b.length : Int) - i) = b.length - i := wrap_i64_id (by omega) (by omega)
  have e1 : IntKind.i64.wrap (i + n) = i + n := wrap_i64_id (by omega) (by omega)
  rw [e0, e1]
  have key : partF b i n = if i < 0 ∨ n < 0 then ([], 1) else if (b.length : Int) < i ∨ (b.length : Int) - i < n then ([], 3) else ((b.drop i.toNat).take n.toNat, 0) := rfl
  refine ⟨fun t => ?_, fun t => ⟨fun t1 => ?_, fun t1 => ⟨fun t2 => ?_, fun t2 => ⟨fun t3 => ?_, fun t3 => ?_⟩⟩⟩⟩
  · rw [key, if_pos (.inl t)]; exact ⟨rfl, rfl⟩
  · rw [key, if_pos (.inr t1)]; exact ⟨rfl, rfl⟩
  · rw [key, if_neg (by have := t; have := t1; omega), if_pos (.inl t2)]; exact ⟨rfl, rfl⟩
  · rw [key, if_neg (by have := t; have := t1; omega), if_pos (.inr t3)]; exact ⟨rfl, rfl⟩
  · have a1 := t; have a2 := t1; have a3 := t2; have a4 := t3
    rw [part_get (by omega) (by omega) (by omega) (by omega), show (i + n).toNat - i.toNat = n.toNat by omega]
    have hl : ((b.drop i.toNat).take n.toNat).length ≤ b.length := by rw [List.length_take, List.length_drop]; omega
    exact ⟨by omega, by omega, rfl, rfl⟩
set_option maxRecDepth 100000 in
theorem ok74 : FnIs Try.prog 74 partC := by
  refine fnIs (C := (ctrs c0)) (by kernel_rfl) c0_ok Try.func74 (code := code74) (by kernel_rfl) (by kernel_rfl) ?_
  rintro a ⟨b, i, n, rfl, h, h1, h2⟩
  exact ⟨anns [] [1, 3], kcast (vc74 b i n h h1 h2) (by kernel_rfl)⟩

theorem c2_ok : COk Try.prog (ctrs c2) := cok_cons ok57 (cok_cons ok74 cok_nil)

noncomputable def code65 : Code := match Try.f65.body with | some c => c | none => .skip
set_option maxHeartbeats 4000000 in
theorem vc65 : ∀ (b : List Int) (i : Int) (k : Nat), sm b.length → okB b → okI i → (1 : Nat) ≤ k → k ≤ (8 : Nat) → True ∧ sw (decide ((↑k : Int) < (1 : Int))) ((0 : Int) = (valF (partF (vl (D.ints IntKind.u8 b)) (vi (D.v (Value.int IntKind.i64 i))) (↑(vi (D.v (Value.int IntKind.i64 (↑k : Int)))).toNat : Int)).fst, (partF (vl (D.ints IntKind.u8 b)) (vi (D.v (Value.int IntKind.i64 i))) (↑(vi (D.v (Value.int IntKind.i64 (↑k : Int)))).toNat : Int)).snd).fst ∧
  (1 : Int) = (valF (partF (vl (D.ints IntKind.u8 b)) (vi (D.v (Value.int IntKind.i64 i))) (↑(vi (D.v (Value.int IntKind.i64 (↑k : Int)))).toNat : Int)).fst, (partF (vl (D.ints IntKind.u8 b)) (vi (D.v (Value.int IntKind.i64 i))) (↑(vi (D.v (Value.int IntKind.i64 (↑k : Int)))).toNat : Int)).snd).snd ∧
  (true && true) = true) (True ∧ sw (decide ((8 : Int) < (↑k : Int))) ((0 : Int) = (valF (partF (vl (D.ints IntKind.u8 b)) (vi (D.v (Value.int IntKind.i64 i))) (↑(vi (D.v (Value.int IntKind.i64 (↑k : Int)))).toNat : Int)).fst, (partF (vl (D.ints IntKind.u8 b)) (vi (D.v (Value.int IntKind.i64 i))) (↑(vi (D.v (Value.int IntKind.i64 (↑k : Int)))).toNat : Int)).snd).fst ∧
  (1 : Int) = (valF (partF (vl (D.ints IntKind.u8 b)) (vi (D.v (Value.int IntKind.i64 i))) (↑(vi (D.v (Value.int IntKind.i64 (↑k : Int)))).toNat : Int)).fst, (partF (vl (D.ints IntKind.u8 b)) (vi (D.v (Value.int IntKind.i64 i))) (↑(vi (D.v (Value.int IntKind.i64 (↑k : Int)))).toNat : Int)).snd).snd ∧
  (true && true) = true) ((∃ (b_1 : List Int), ∃ (i_1 : Int), ∃ (n : Int), [O.d (D.ints IntKind.u8 b), O.d (D.v (Value.int IntKind.i64 i)), O.d (D.v (Value.int IntKind.i64 (↑k : Int)))] = [O.d (D.ints IntKind.u8 b_1), O.d (D.v (Value.int IntKind.i64 i_1)), O.d (D.v (Value.int IntKind.i64 n))] ∧
  sm b_1.length ∧ okI i_1 ∧ okI n) ∧ ∃ (g0 : Nat), g0 ≤ (partF b i (↑k : Int)).fst.length ∧ (0 : Int) = (↑g0 : Int) ∧ (0 : Int) = valF (List.take g0 (partF b i (↑k : Int)).fst) ∧
  (true && true) = true ∧ ∀ (g : Nat), g ≤ (partF b i (↑k : Int)).fst.length → True ∧ sw (decide ((↑g : Int) < (↑(partF (vl (D.ints IntKind.u8 b)) (vi (D.v (Value.int IntKind.i64 i))) (vi (D.v (Value.int IntKind.i64 (↑k : Int))))).fst.length : Int))) (((0 : Int) ≤ (↑g : Int) ∧
  (↑g : Int) < (↑(partF (vl (D.ints IntKind.u8 b)) (vi (D.v (Value.int IntKind.i64 i))) (vi (D.v (Value.int IntKind.i64 (↑k : Int))))).fst.length : Int)) ∧
  (0 : Int) ≤ (8 : Int) ∧ True ∧ True ∧ ∃ (g' : Nat), g' ≤ (partF b i (↑k : Int)).fst.length ∧ (partF b i (↑k : Int)).fst.length - g' < (partF b i (↑k : Int)).fst.length - g ∧
  (IntKind.i64.wrap ((↑g : Int) + (1 : Int)) = (↑g' : Int) ∧ bits BinOp.or IntKind.u64 (IntKind.u64.wrap (valF (List.take g (partF b i (↑k : Int)).fst) * (2 : Int) ^ min (Int.toNat (8 : Int)) IntKind.u64.bits)) (IntKind.u64.wrap ((partF (vl (D.ints IntKind.u8 b)) (vi (D.v (Value.int IntKind.i64 i))) (vi (D.v (Value.int IntKind.i64 (↑k : Int))))).fst.getD (↑g : Int).toNat (0 : Int))) = valF (List.take g' (partF b i (↑k : Int)).fst) ∧
  (true && true && true) = true) ∧ (some (SV.c (Value.int IntKind.i64 (↑(partF (vl (D.ints IntKind.u8 b)) (vi (D.v (Value.int IntKind.i64 i))) (vi (D.v (Value.int IntKind.i64 (↑k : Int))))).fst.length : Int))) = some (SV.c (Value.int IntKind.i64 (↑(partF (vl (D.ints IntKind.u8 b)) (vi (D.v (Value.int IntKind.i64 i))) (vi (D.v (Value.int IntKind.i64 (↑k : Int))))).fst.length : Int))) ∧
  some (SV.a (1 : Nat)) = some (SV.a (1 : Nat)) ∧ some (SV.c (Value.int IntKind.i64 (partF (vl (D.ints IntKind.u8 b)) (vi (D.v (Value.int IntKind.i64 i))) (vi (D.v (Value.int IntKind.i64 (↑k : Int))))).snd)) = some (SV.c (Value.int IntKind.i64 (partF (vl (D.ints IntKind.u8 b)) (vi (D.v (Value.int IntKind.i64 i))) (vi (D.v (Value.int IntKind.i64 (↑k : Int))))).snd)) ∧
  some (SV.a (1 : Nat)) = some (SV.a (1 : Nat)) ∧ some (SV.c (Value.int IntKind.i64 (partF (vl (D.ints IntKind.u8 b)) (vi (D.v (Value.int IntKind.i64 i))) (vi (D.v (Value.int IntKind.i64 (↑k : Int))))).snd)) = some (SV.c (Value.int IntKind.i64 (partF (vl (D.ints IntKind.u8 b)) (vi (D.v (Value.int IntKind.i64 i))) (vi (D.v (Value.int IntKind.i64 (↑k : Int))))).snd)) ∧
  some (SV.a (1 : Nat)) = some (SV.a (1 : Nat)) ∧ some (SV.tup [SV.a (1 : Nat), SV.c (Value.int IntKind.i64 (partF (vl (D.ints IntKind.u8 b)) (vi (D.v (Value.int IntKind.i64 i))) (vi (D.v (Value.int IntKind.i64 (↑k : Int))))).snd)]) = some (SV.tup [SV.a (1 : Nat), SV.c (Value.int IntKind.i64 (partF (vl (D.ints IntKind.u8 b)) (vi (D.v (Value.int IntKind.i64 i))) (vi (D.v (Value.int IntKind.i64 (↑k : Int))))).snd)]) ∧
  some (SV.tup [SV.a (1 : Nat), SV.c (Value.int IntKind.i64 (partF (vl (D.ints IntKind.u8 b)) (vi (D.v (Value.int IntKind.i64 i))) (vi (D.v (Value.int IntKind.i64 (↑k : Int))))).snd)]) = some (SV.tup [SV.a (1 : Nat), SV.c (Value.int IntKind.i64 (partF (vl (D.ints IntKind.u8 b)) (vi (D.v (Value.int IntKind.i64 i))) (vi (D.v (Value.int IntKind.i64 (↑k : Int))))).snd)]) ∧
  some (SV.c (Value.int IntKind.i64 (↑k : Int))) = some (SV.c (Value.int IntKind.i64 (↑k : Int))) ∧ some (SV.c (Value.int IntKind.i64 i)) = some (SV.c (Value.int IntKind.i64 i)) ∧
  some (SV.a (0 : Nat)) = some (SV.a (0 : Nat)) ∧ some (SV.c (Value.bool (decide ((8 : Int) < (↑k : Int))))) = some (SV.c (Value.bool (decide ((8 : Int) < (↑k : Int))))) ∧
  some (SV.c (Value.bool (decide ((8 : Int) < (↑k : Int))))) = some (SV.c (Value.bool (decide ((8 : Int) < (↑k : Int))))) ∧ some (SV.c (Value.int IntKind.i64 (↑k : Int))) = some (SV.c (Value.int IntKind.i64 (↑k : Int))) ∧
  some (SV.b false) = some (SV.b false) ∧ some (SV.c (Value.bool (decide ((↑k : Int) < (1 : Int))))) = some (SV.c (Value.bool (decide ((↑k : Int) < (1 : Int))))) ∧
  some (SV.c (Value.int IntKind.i64 (↑k : Int))) = some (SV.c (Value.int IntKind.i64 (↑k : Int))) ∧ some (SV.a (0 : Nat)) = some (SV.a (0 : Nat)) ∧ some (SV.c (Value.int IntKind.i64 i)) = some (SV.c (Value.int IntKind.i64 i)) ∧
  some (SV.c (Value.int IntKind.i64 (↑k : Int))) = some (SV.c (Value.int IntKind.i64 (↑k : Int))) ∧ True) ∧ some (R.own (5 : Nat) (D.ints IntKind.u8 (partF (vl (D.ints IntKind.u8 b)) (vi (D.v (Value.int IntKind.i64 i))) (vi (D.v (Value.int IntKind.i64 (↑k : Int))))).fst)) = some (R.own (5 : Nat) (D.ints IntKind.u8 (partF (vl (D.ints IntKind.u8 b)) (vi (D.v (Value.int IntKind.i64 i))) (vi (D.v (Value.int IntKind.i64 (↑k : Int))))).fst)) ∧
  some (R.ro (D.ints IntKind.u8 b)) = some (R.ro (D.ints IntKind.u8 b)) ∧ True) (valF (List.take g (partF b i (↑k : Int)).fst) = (valF (partF (vl (D.ints IntKind.u8 b)) (vi (D.v (Value.int IntKind.i64 i))) (↑(vi (D.v (Value.int IntKind.i64 (↑k : Int)))).toNat : Int)).fst, (partF (vl (D.ints IntKind.u8 b)) (vi (D.v (Value.int IntKind.i64 i))) (↑(vi (D.v (Value.int IntKind.i64 (↑k : Int)))).toNat : Int)).snd).fst ∧
  (partF (vl (D.ints IntKind.u8 b)) (vi (D.v (Value.int IntKind.i64 i))) (vi (D.v (Value.int IntKind.i64 (↑k : Int))))).snd = (valF (partF (vl (D.ints IntKind.u8 b)) (vi (D.v (Value.int IntKind.i64 i))) (↑(vi (D.v (Value.int IntKind.i64 (↑k : Int)))).toNat : Int)).fst, (partF (vl (D.ints IntKind.u8 b)) (vi (D.v (Value.int IntKind.i64 i))) (↑(vi (D.v (Value.int IntKind.i64 (↑k : Int)))).toNat : Int)).snd).snd ∧
  (true && true) = true))) := by
  simp only [↓sw_iff, ↓decide_eq_true_eq, ↓decide_eq_false_iff_not, true_and, and_true, Bool.and_self, Int.toNat_natCast, vi, vl]
  intro b i k h hb h1 h2 h3
  have hp := part_ok hb i (k : Int)
  have hl := part_len (b := b) (i := i) (k := k)
  refine ⟨fun t => absurd t (by omega), fun _ => ⟨fun t => absurd t (by omega), fun _ => ⟨⟨b, i, k, rfl, h, h1, by unfold okI; omega⟩, 0, Nat.zero_le _, rfl, rfl, ?_⟩⟩⟩
  intro g hg
  refine ⟨fun t => ?_, fun t => ?_⟩
  · have hlt : g < (partF b i (k : Int)).1.length := by have := t; omega
    have hx := okB_getD hp g
    have hv := val_small (okB_take hp g) (by rw [List.length_take]; omega)
    refine ⟨⟨by omega, by omega⟩, by omega, g + 1, hlt, by omega, by rw [wrap_i64_id (by omega) (by omega)]; rfl, ?_⟩
    rw [or_byte hv.1 hv.2 hx.1 hx.2, take_succ_getD hlt, val_snoc]
  · rw [List.take_of_length_le (by have := t; omega)]
set_option maxRecDepth 100000 in
theorem ok65 : FnIs Try.prog 65 (getC 8) := by
  refine fnIs (C := (ctrs c2)) (by kernel_rfl) c2_ok Try.func65 (code := code65) (by kernel_rfl) (by kernel_rfl) ?_
  rintro a ⟨b, i, k, rfl, h, hb, h1, h2, h3⟩
  exact ⟨anns [(5, valAnn 26 6 (partF b i k).1)] [1], kcast (vc65 b i k h hb h1 h2 h3) (by kernel_rfl)⟩

noncomputable def code66 : Code := match Try.f66.body with | some c => c | none => .skip
set_option maxHeartbeats 4000000 in
theorem vc66 : ∀ (b : List Int) (i : Int) (k : Nat), sm b.length → okB b → okI i → (1 : Nat) ≤ k → k ≤ (8 : Nat) → True ∧ sw (decide ((↑k : Int) < (1 : Int))) ((0 : Int) = (valF (partF (vl (D.ints IntKind.u8 b)) (vi (D.v (Value.int IntKind.i64 i))) (↑(vi (D.v (Value.int IntKind.i64 (↑k : Int)))).toNat : Int)).fst, (partF (vl (D.ints IntKind.u8 b)) (vi (D.v (Value.int IntKind.i64 i))) (↑(vi (D.v (Value.int IntKind.i64 (↑k : Int)))).toNat : Int)).snd).fst ∧
  (1 : Int) = (valF (partF (vl (D.ints IntKind.u8 b)) (vi (D.v (Value.int IntKind.i64 i))) (↑(vi (D.v (Value.int IntKind.i64 (↑k : Int)))).toNat : Int)).fst, (partF (vl (D.ints IntKind.u8 b)) (vi (D.v (Value.int IntKind.i64 i))) (↑(vi (D.v (Value.int IntKind.i64 (↑k : Int)))).toNat : Int)).snd).snd ∧
  (true && true) = true) (True ∧ sw (decide ((8 : Int) < (↑k : Int))) ((0 : Int) = (valF (partF (vl (D.ints IntKind.u8 b)) (vi (D.v (Value.int IntKind.i64 i))) (↑(vi (D.v (Value.int IntKind.i64 (↑k : Int)))).toNat : Int)).fst, (partF (vl (D.ints IntKind.u8 b)) (vi (D.v (Value.int IntKind.i64 i))) (↑(vi (D.v (Value.int IntKind.i64 (↑k : Int)))).toNat : Int)).snd).fst ∧
  (1 : Int) = (valF (partF (vl (D.ints IntKind.u8 b)) (vi (D.v (Value.int IntKind.i64 i))) (↑(vi (D.v (Value.int IntKind.i64 (↑k : Int)))).toNat : Int)).fst, (partF (vl (D.ints IntKind.u8 b)) (vi (D.v (Value.int IntKind.i64 i))) (↑(vi (D.v (Value.int IntKind.i64 (↑k : Int)))).toNat : Int)).snd).snd ∧
  (true && true) = true) (True ∧ sw (decide (i < (0 : Int))) ((0 : Int) = (valF (partF (vl (D.ints IntKind.u8 b)) (vi (D.v (Value.int IntKind.i64 i))) (↑(vi (D.v (Value.int IntKind.i64 (↑k : Int)))).toNat : Int)).fst, (partF (vl (D.ints IntKind.u8 b)) (vi (D.v (Value.int IntKind.i64 i))) (↑(vi (D.v (Value.int IntKind.i64 (↑k : Int)))).toNat : Int)).snd).fst ∧
  (1 : Int) = (valF (partF (vl (D.ints IntKind.u8 b)) (vi (D.v (Value.int IntKind.i64 i))) (↑(vi (D.v (Value.int IntKind.i64 (↑k : Int)))).toNat : Int)).fst, (partF (vl (D.ints IntKind.u8 b)) (vi (D.v (Value.int IntKind.i64 i))) (↑(vi (D.v (Value.int IntKind.i64 (↑k : Int)))).toNat : Int)).snd).snd ∧
  (true && true) = true) ((∃ (b_1 : List Int), ∃ (i_1 : Int), ∃ (n : Int), [O.d (D.ints IntKind.u8 b), O.d (D.v (Value.int IntKind.i64 i)), O.d (D.v (Value.int IntKind.i64 (↑k : Int)))] = [O.d (D.ints IntKind.u8 b_1), O.d (D.v (Value.int IntKind.i64 i_1)), O.d (D.v (Value.int IntKind.i64 n))] ∧
  sm b_1.length ∧ okI i_1 ∧ okI n) ∧ True ∧ sw (!decide ((partF (vl (D.ints IntKind.u8 b)) (vi (D.v (Value.int IntKind.i64 i))) (vi (D.v (Value.int IntKind.i64 (↑k : Int))))).snd = (0 : Int))) ((0 : Int) = (valF (partF (vl (D.ints IntKind.u8 b)) (vi (D.v (Value.int IntKind.i64 i))) (↑(vi (D.v (Value.int IntKind.i64 (↑k : Int)))).toNat : Int)).fst, (partF (vl (D.ints IntKind.u8 b)) (vi (D.v (Value.int IntKind.i64 i))) (↑(vi (D.v (Value.int IntKind.i64 (↑k : Int)))).toNat : Int)).snd).fst ∧
  (partF (vl (D.ints IntKind.u8 b)) (vi (D.v (Value.int IntKind.i64 i))) (vi (D.v (Value.int IntKind.i64 (↑k : Int))))).snd = (valF (partF (vl (D.ints IntKind.u8 b)) (vi (D.v (Value.int IntKind.i64 i))) (↑(vi (D.v (Value.int IntKind.i64 (↑k : Int)))).toNat : Int)).fst, (partF (vl (D.ints IntKind.u8 b)) (vi (D.v (Value.int IntKind.i64 i))) (↑(vi (D.v (Value.int IntKind.i64 (↑k : Int)))).toNat : Int)).snd).snd ∧
  (true && true) = true) (∃ (g0 : Nat), g0 ≤ (partF b i (↑k : Int)).fst.length ∧ (0 : Int) = (↑g0 : Int) ∧ (0 : Int) = valF (List.take g0 (partF b i (↑k : Int)).fst) ∧
  (true && true) = true ∧ ∀ (g : Nat), g ≤ (partF b i (↑k : Int)).fst.length → True ∧ sw (decide ((↑g : Int) < (↑(partF (vl (D.ints IntKind.u8 b)) (vi (D.v (Value.int IntKind.i64 i))) (vi (D.v (Value.int IntKind.i64 (↑k : Int))))).fst.length : Int))) (True ∧
  ((0 : Int) ≤ (↑g : Int) ∧ (↑g : Int) < (↑(partF (vl (D.ints IntKind.u8 b)) (vi (D.v (Value.int IntKind.i64 i))) (vi (D.v (Value.int IntKind.i64 (↑k : Int))))).fst.length : Int)) ∧
  True ∧ True ∧ ∃ (g' : Nat), g' ≤ (partF b i (↑k : Int)).fst.length ∧ (partF b i (↑k : Int)).fst.length - g' < (partF b i (↑k : Int)).fst.length - g ∧ (IntKind.i64.wrap ((↑g : Int) + (1 : Int)) = (↑g' : Int) ∧
  IntKind.u64.wrap (IntKind.u64.wrap (valF (List.take g (partF b i (↑k : Int)).fst) * (256 : Int)) + IntKind.u64.wrap ((partF (vl (D.ints IntKind.u8 b)) (vi (D.v (Value.int IntKind.i64 i))) (vi (D.v (Value.int IntKind.i64 (↑k : Int))))).fst.getD (↑g : Int).toNat (0 : Int))) = valF (List.take g' (partF b i (↑k : Int)).fst) ∧
  (true && true && true) = true) ∧ (some (SV.c (Value.bool !decide ((partF (vl (D.ints IntKind.u8 b)) (vi (D.v (Value.int IntKind.i64 i))) (vi (D.v (Value.int IntKind.i64 (↑k : Int))))).snd = (0 : Int)))) = some (SV.c (Value.bool !decide ((partF (vl (D.ints IntKind.u8 b)) (vi (D.v (Value.int IntKind.i64 i))) (vi (D.v (Value.int IntKind.i64 (↑k : Int))))).snd = (0 : Int)))) ∧
  some (SV.c (Value.int IntKind.i64 (partF (vl (D.ints IntKind.u8 b)) (vi (D.v (Value.int IntKind.i64 i))) (vi (D.v (Value.int IntKind.i64 (↑k : Int))))).snd)) = some (SV.c (Value.int IntKind.i64 (partF (vl (D.ints IntKind.u8 b)) (vi (D.v (Value.int IntKind.i64 i))) (vi (D.v (Value.int IntKind.i64 (↑k : Int))))).snd)) ∧
  some (SV.c (Value.int IntKind.i64 (partF (vl (D.ints IntKind.u8 b)) (vi (D.v (Value.int IntKind.i64 i))) (vi (D.v (Value.int IntKind.i64 (↑k : Int))))).snd)) = some (SV.c (Value.int IntKind.i64 (partF (vl (D.ints IntKind.u8 b)) (vi (D.v (Value.int IntKind.i64 i))) (vi (D.v (Value.int IntKind.i64 (↑k : Int))))).snd)) ∧
  some (SV.a (1 : Nat)) = some (SV.a (1 : Nat)) ∧ some (SV.c (Value.int IntKind.i64 (partF (vl (D.ints IntKind.u8 b)) (vi (D.v (Value.int IntKind.i64 i))) (vi (D.v (Value.int IntKind.i64 (↑k : Int))))).snd)) = some (SV.c (Value.int IntKind.i64 (partF (vl (D.ints IntKind.u8 b)) (vi (D.v (Value.int IntKind.i64 i))) (vi (D.v (Value.int IntKind.i64 (↑k : Int))))).snd)) ∧
  some (SV.a (1 : Nat)) = some (SV.a (1 : Nat)) ∧ some (SV.tup [SV.a (1 : Nat), SV.c (Value.int IntKind.i64 (partF (vl (D.ints IntKind.u8 b)) (vi (D.v (Value.int IntKind.i64 i))) (vi (D.v (Value.int IntKind.i64 (↑k : Int))))).snd)]) = some (SV.tup [SV.a (1 : Nat), SV.c (Value.int IntKind.i64 (partF (vl (D.ints IntKind.u8 b)) (vi (D.v (Value.int IntKind.i64 i))) (vi (D.v (Value.int IntKind.i64 (↑k : Int))))).snd)]) ∧
  some (SV.tup [SV.a (1 : Nat), SV.c (Value.int IntKind.i64 (partF (vl (D.ints IntKind.u8 b)) (vi (D.v (Value.int IntKind.i64 i))) (vi (D.v (Value.int IntKind.i64 (↑k : Int))))).snd)]) = some (SV.tup [SV.a (1 : Nat), SV.c (Value.int IntKind.i64 (partF (vl (D.ints IntKind.u8 b)) (vi (D.v (Value.int IntKind.i64 i))) (vi (D.v (Value.int IntKind.i64 (↑k : Int))))).snd)]) ∧
  some (SV.c (Value.int IntKind.i64 (↑k : Int))) = some (SV.c (Value.int IntKind.i64 (↑k : Int))) ∧ some (SV.c (Value.int IntKind.i64 i)) = some (SV.c (Value.int IntKind.i64 i)) ∧
  some (SV.a (0 : Nat)) = some (SV.a (0 : Nat)) ∧ some (SV.c (Value.bool (decide (i < (0 : Int))))) = some (SV.c (Value.bool (decide (i < (0 : Int))))) ∧
  some (SV.c (Value.bool (decide (i < (0 : Int))))) = some (SV.c (Value.bool (decide (i < (0 : Int))))) ∧ some (SV.c (Value.int IntKind.i64 i)) = some (SV.c (Value.int IntKind.i64 i)) ∧
  some (SV.b false) = some (SV.b false) ∧ some (SV.c (Value.bool (decide ((8 : Int) < (↑k : Int))))) = some (SV.c (Value.bool (decide ((8 : Int) < (↑k : Int))))) ∧
  some (SV.c (Value.bool (decide ((8 : Int) < (↑k : Int))))) = some (SV.c (Value.bool (decide ((8 : Int) < (↑k : Int))))) ∧ some (SV.c (Value.int IntKind.i64 (↑k : Int))) = some (SV.c (Value.int IntKind.i64 (↑k : Int))) ∧
  some (SV.b false) = some (SV.b false) ∧ some (SV.c (Value.bool (decide ((↑k : Int) < (1 : Int))))) = some (SV.c (Value.bool (decide ((↑k : Int) < (1 : Int))))) ∧
  some (SV.c (Value.int IntKind.i64 (↑k : Int))) = some (SV.c (Value.int IntKind.i64 (↑k : Int))) ∧ some (SV.c (Value.int IntKind.i64 (0 : Int))) = some (SV.c (Value.int IntKind.i64 (0 : Int))) ∧
  some (SV.c (Value.int IntKind.u64 (0 : Int))) = some (SV.c (Value.int IntKind.u64 (0 : Int))) ∧ some (SV.a (0 : Nat)) = some (SV.a (0 : Nat)) ∧ some (SV.c (Value.int IntKind.i64 i)) = some (SV.c (Value.int IntKind.i64 i)) ∧
  some (SV.c (Value.int IntKind.i64 (↑k : Int))) = some (SV.c (Value.int IntKind.i64 (↑k : Int))) ∧ True) ∧ some (R.own (5 : Nat) (D.ints IntKind.u8 (partF (vl (D.ints IntKind.u8 b)) (vi (D.v (Value.int IntKind.i64 i))) (vi (D.v (Value.int IntKind.i64 (↑k : Int))))).fst)) = some (R.own (5 : Nat) (D.ints IntKind.u8 (partF (vl (D.ints IntKind.u8 b)) (vi (D.v (Value.int IntKind.i64 i))) (vi (D.v (Value.int IntKind.i64 (↑k : Int))))).fst)) ∧
  some (R.ro (D.ints IntKind.u8 b)) = some (R.ro (D.ints IntKind.u8 b)) ∧ True) (valF (List.take g (partF b i (↑k : Int)).fst) = (valF (partF (vl (D.ints IntKind.u8 b)) (vi (D.v (Value.int IntKind.i64 i))) (↑(vi (D.v (Value.int IntKind.i64 (↑k : Int)))).toNat : Int)).fst, (partF (vl (D.ints IntKind.u8 b)) (vi (D.v (Value.int IntKind.i64 i))) (↑(vi (D.v (Value.int IntKind.i64 (↑k : Int)))).toNat : Int)).snd).fst ∧
  (0 : Int) = (valF (partF (vl (D.ints IntKind.u8 b)) (vi (D.v (Value.int IntKind.i64 i))) (↑(vi (D.v (Value.int IntKind.i64 (↑k : Int)))).toNat : Int)).fst, (partF (vl (D.ints IntKind.u8 b)) (vi (D.v (Value.int IntKind.i64 i))) (↑(vi (D.v (Value.int IntKind.i64 (↑k : Int)))).toNat : Int)).snd).snd ∧
  (true && true) = true))))) := by
  simp only [↓sw_iff, ↓decide_eq_true_eq, ↓decide_eq_false_iff_not, ↓Bool.not_eq_true', ↓Bool.not_eq_false', true_and, and_true, Bool.and_self, Int.toNat_natCast, vi, vl]
  intro b i k h hb h1 h2 h3
  have hp := part_ok hb i (k : Int)
  have hl := part_len (b := b) (i := i) (k := k)
  have he := part_err b i (k : Int)
  refine ⟨fun t => absurd t (by omega), fun _ => ⟨fun t => absurd t (by omega), fun _ => ⟨fun t => ?_, fun _ => ⟨⟨b, i, k, rfl, h, h1, by unfold okI; omega⟩, fun t => ?_, fun t => ⟨0, Nat.zero_le _, rfl, rfl, ?_⟩⟩⟩⟩⟩
  · have key : partF b i (k : Int) = ([], 1) := by unfold partF; rw [if_pos (.inl t)]
    rw [key]; exact ⟨rfl, rfl⟩
  · rw [he t]; rfl
  have he0 : (partF b i (k : Int)).2 = 0 := t
  intro g hg
  refine ⟨fun t => ?_, fun t => ?_⟩
  · have hlt : g < (partF b i (k : Int)).1.length := by have := t; omega
    have hx := okB_getD hp g
    have hv := val_small (okB_take hp g) (by rw [List.length_take]; omega)
    have hv2 : valF ((partF b i (k : Int)).1.take g) < 72057594037927936 := hv.2
    refine ⟨⟨by omega, by omega⟩, g + 1, hlt, by omega, by rw [wrap_i64_id (by omega) (by omega)]; rfl, ?_⟩
    rw [take_succ_getD hlt, val_snoc, IntKind.wrap_u64, IntKind.wrap_u64, IntKind.wrap_u64]
    omega
  · rw [List.take_of_length_le (by have := t; omega)]
    exact ⟨rfl, he0.symm⟩
set_option maxRecDepth 100000 in
theorem ok66 : FnIs Try.prog 66 (getC 8) := by
  refine fnIs (C := (ctrs c2)) (by kernel_rfl) c2_ok Try.func66 (code := code66) (by kernel_rfl) (by kernel_rfl) ?_
  rintro a ⟨b, i, k, rfl, h, hb, h1, h2, h3⟩
  exact ⟨anns [(8, valAnn 11 10 (partF b i k).1)] [1], kcast (vc66 b i k h hb h1 h2 h3) (by kernel_rfl)⟩

theorem c3_ok : COk Try.prog (ctrs c3) := cok_cons ok66 cok_nil

noncomputable def code50 : Code := match Try.f50.body with | some c => c | none => .skip
set_option maxHeartbeats 4000000 in
theorem vc50 : ∀ (b : List Int) (i : Int) (k : Nat), sm b.length → okB b → okI i → (1 : Nat) ≤ k → k ≤ (7 : Nat) → (∃ (b_1 : List Int), ∃ (i_1 : Int), ∃ (k_1 : Nat), [O.d (D.ints IntKind.u8 b), O.d (D.v (Value.int IntKind.i64 i)), O.d (D.v (Value.int IntKind.i64 (↑k : Int)))] = [O.d (D.ints IntKind.u8 b_1), O.d (D.v (Value.int IntKind.i64 i_1)), O.d (D.v (Value.int IntKind.i64 (↑k_1 : Int)))] ∧
  sm b_1.length ∧ okB b_1 ∧ okI i_1 ∧ (1 : Nat) ≤ k_1 ∧ k_1 ≤ (8 : Nat)) ∧ IntKind.i64.wrap (valF (partF (vl (D.ints IntKind.u8 b)) (vi (D.v (Value.int IntKind.i64 i))) (↑(vi (D.v (Value.int IntKind.i64 (↑k : Int)))).toNat : Int)).fst, (partF (vl (D.ints IntKind.u8 b)) (vi (D.v (Value.int IntKind.i64 i))) (↑(vi (D.v (Value.int IntKind.i64 (↑k : Int)))).toNat : Int)).snd).fst = (valF (partF (vl (D.ints IntKind.u8 b)) (vi (D.v (Value.int IntKind.i64 i))) (↑(vi (D.v (Value.int IntKind.i64 (↑k : Int)))).toNat : Int)).fst, (partF (vl (D.ints IntKind.u8 b)) (vi (D.v (Value.int IntKind.i64 i))) (↑(vi (D.v (Value.int IntKind.i64 (↑k : Int)))).toNat : Int)).snd).fst ∧
  (true && true) = true := by
  simp only [and_true, Bool.and_self, Int.toNat_natCast, vi, vl]
  intro b i k h hb h1 h2 h3
  refine ⟨⟨b, i, k, rfl, h, hb, h1, h2, by omega⟩, ?_⟩
  have hs := val_small (part_ok hb i (k : Int)) (Nat.le_trans part_len h3)
  have h7 : (256 : Int) ^ 7 = 72057594037927936 := rfl
  rw [wrap_i64_id (by omega) (by omega)]
set_option maxRecDepth 100000 in
theorem ok50 : FnIs Try.prog 50 numC := by
  refine fnIs (C := (ctrs c3)) (by kernel_rfl) c3_ok Try.func50 (code := code50) (by kernel_rfl) (by kernel_rfl) ?_
  rintro a ⟨b, i, k, rfl, h, hb, h1, h2, h3⟩
  exact ⟨anns [], kcast (vc50 b i k h hb h1 h2 h3) (by kernel_rfl)⟩

end Go.ZR

/- Chunks: data, plain functions, contracts. -/
namespace Go.ZM
open Go.Z Go.ZR

structure ChR where
  t : Int
  f : Int
  v : List Int
def noCh : ChR := ⟨0, 0, []⟩
def chCell (l : List ChR) (i j : Nat) : D :=
  match j with
  | 0 => .v (.int .u8 (l.getD i noCh).t)
  | 1 => .v (.int .u8 (l.getD i noCh).f)
  | _ => .ints .u8 (l.getD i noCh).v
def chAt (g : Nat → D) : ChR := ⟨vi (g 0), vi (g 1), vl (g 2)⟩
def chsOf : D → List ChR
  | .recs _ n f => (List.range n).map fun i => chAt (f i)
  | _ => []
theorem range_getD {α : Type} (l : List α) (d : α) : (List.range l.length).map (fun i => l.getD i d) = l := by
  apply List.ext_getElem
  · simp
  · intro i h1 h2; simp [List.getD, List.getElem?_eq_getElem h2]
theorem chsOf_chs (l : List ChR) : chsOf (.recs 3 l.length (chCell l)) = l := range_getD l noCh

def chB (c : ChR) : List Int := [c.t, c.f] ++ (be (4 + (c.v.length : Int)) 2 ++ padF c.v)
def putB (l : List ChR) : List Int := l.flatMap chB
/-- Chunks as bytes, and the error. -/
def putR (l : List ChR) : List Int × Int := if 32 < l.length ∨ 4096 < (putB l).length then ([], 4) else (putB l, 0)
def someNZ (l : List Int) : Bool := l.any fun x => decide (0 < x)
/-- The first chunk's number. -/
def numF (b : List Int) : Nat := (valF ((b.drop 2).take 2)).toNat
/-- The first chunk of bytes; how many it takes; the error. -/
def firstF (b : List Int) : ChR × Nat × Int :=
  if b.length < 4 then (noCh, 0, 3) else
  if numF b < 4 then (noCh, 0, 2) else
  if b.length < numF b + padN (numF b) then (noCh, 0, 3) else
  if someNZ ((b.drop (numF b)).take (padN (numF b))) = true then (noCh, 0, 2) else
  (⟨b.getD 0 0, b.getD 1 0, (b.drop 4).take (numF b - 4)⟩, numF b + padN (numF b), 0)
def getG : Nat → List ChR → List Int → List ChR × Int
  | 0, _, _ => ([], 4)
  | f + 1, l, b => if b.length = 0 then (l, 0) else if 32 ≤ l.length then ([], 4) else
    if (firstF b).2.2 = 0 then getG f (l ++ [(firstF b).1]) (b.drop (firstF b).2.1) else ([], (firstF b).2.2)
def getR (b : List Int) : List ChR × Int := if 4096 < b.length then ([], 4) else getG 33 [] b
def sameCh (c d : ChR) : Bool := decide (c.t = d.t) && decide (c.f = d.f) && decide (bstr c.v = bstr d.v)
def sameChs (l m : List ChR) : Bool := (List.range (min l.length m.length)).all (fun i => sameCh (l.getD i noCh) (m.getD i noCh)) && decide (l.length = m.length)
def okCh (c : ChR) : Prop := sm c.v.length
def okChs (l : List ChR) : Prop := l.length ≤ 1073741824 ∧ ∀ c, c ∈ l → sm c.v.length
end Go.ZM
namespace Go.ZR
open Go.Z Go.ZM
def chsD (l : List ChR) : D := .recs 3 l.length (chCell l)
def chO (c : ChR) : O := .agg [iO .u8 c.t, iO .u8 c.f, bsO c.v]
def chN (c : ChR) : O := .agg [iO .u8 c.t, iO .u8 c.f, bsN c.v]
def chOf : O → ChR
  | .agg [t, f, v] => ⟨vi (dO t), vi (dO f), vl (dO v)⟩
  | _ => noCh
/-- As nC; results may share what is read. -/
def rC (n : Nat) (pre : List O → Prop) (res : List O → List O) : Ctr where
  own := []
  pre := pre
  res := res
  upd := fun _ => List.replicate n .any
  ro := true
  quiet := false
def ownC : Ctr := rC 1 (fun a => ∃ l, a = [.d (chsD l)] ∧ okChs l) fun a => [.own 45 (chsD (chsOf (dO (at_ a 0))))]
def putsC : Ctr := nC 1 false (fun a => ∃ l, a = [.d (chsD l)] ∧ okChs l) fun a => [bsN (putR (chsOf (dO (at_ a 0)))).1, iO .i64 (putR (chsOf (dO (at_ a 0)))).2]
def sizeC : Ctr := nC 1 true (fun a => ∃ c, a = [chO c] ∧ okCh c) fun a => [iO .i64 ((chB (chOf (at_ a 0))).length : Nat)]
def ansC : Ctr := nC 0 true (fun a => a = []) fun _ => [bO true]
def nzD : D := fnD 69 0 []
def nzC : Ctr := nC 2 true (fun a => ∃ l, a = [bsO l, .d nzD] ∧ sm l.length) fun a => [bO (someNZ (vl (dO (at_ a 0))))]
def firstC : Ctr := nC 1 false (fun a => ∃ b, a = [bsO b] ∧ sm b.length ∧ okB b) fun a =>
  [chN (firstF (vl (dO (at_ a 0)))).1, iO .i64 ((firstF (vl (dO (at_ a 0)))).2.1 : Nat), iO .i64 (firstF (vl (dO (at_ a 0)))).2.2]
def getsC : Ctr := rC 1 (fun a => ∃ b, a = [bsO b] ∧ sm b.length ∧ okB b) fun a => [.own 45 (chsD (getR (vl (dO (at_ a 0)))).1), iO .i64 (getR (vl (dO (at_ a 0)))).2]
def sameC : Ctr := nC 2 true (fun a => ∃ c d, a = [chO c, chO d]) fun a => [bO (sameCh (chOf (at_ a 0)) (chOf (at_ a 1)))]
def samesC : Ctr := nC 2 true (fun a => ∃ l m, a = [.d (chsD l), .d (chsD m)] ∧ okChs l ∧ okChs m) fun a => [bO (sameChs (chsOf (dO (at_ a 0))) (chsOf (dO (at_ a 1))))]

def ownAnn (l : List ChR) : LoopAnn where
  γ := Nat
  pre := fun i => i ≤ l.length
  μ := fun i => l.length - i
  items := fun i => [(4, .c (iO .i64 (i : Int))), (3, .c (.own 45 (chsD (l.take i))))]
def sizeAnn (l : List ChR) : LoopAnn where
  γ := Nat
  pre := fun i => i ≤ l.length ∧ (putB (l.take i)).length ≤ 4096
  μ := fun i => l.length - i
  items := fun i => [(15, .c (iO .i64 (i : Int))), (4, .c (iO .i64 ((putB (l.take i)).length : Nat)))]
def outAnn (s t : Nat) (l : List ChR) : LoopAnn where
  γ := Nat
  pre := fun i => i ≤ l.length ∧ (putB (l.take i)).length ≤ 4096
  μ := fun i => l.length - i
  items := fun i => [(s, .c (iO .i64 (i : Int))), (t, .c (bsN (putB (l.take i))))]
def firstAnn : LoopF := .fam (List Int) fun l =>
  { γ := Nat, pre := fun i => i ≤ l.length ∧ ∀ j, j < i → ¬ 0 < l.getD j 0, μ := fun i => l.length - i, items := fun i => [(8, .c (iO .i64 (i : Int)))] }
def getAnn (b : List Int) : LoopAnn where
  γ := List ChR × List Int
  pre := fun g => g.1.length ≤ 32 ∧ g.2.length ≤ 4096 ∧ okB g.2 ∧ getG (33 - g.1.length) g.1 g.2 = getG 33 [] b
  μ := fun g => 33 - g.1.length
  items := fun g => [(4, .c (.own 45 (chsD g.1))), (0, .c (bsO g.2))]
def getAnn' (b : List Int) : LoopAnn where
  γ := List ChR × Nat
  pre := fun g => g.1.length ≤ 32 ∧ g.2 ≤ b.length ∧ getG (33 - g.1.length) g.1 (b.drop g.2) = getG 33 [] b
  μ := fun g => 33 - g.1.length
  items := fun g => [(4, .c (.own 45 (chsD g.1))), (5, .c (iO .i64 (g.2 : Int)))]
def padAnn (b : List Int) : LoopF := .fam (Nat × Nat) fun p =>
  { γ := Nat, pre := fun i => p.1 ≤ i ∧ i ≤ p.2 ∧ ∀ j, p.1 ≤ j → j < i → b.getD j 0 = 0, μ := fun i => p.2 - i, items := fun i => [(8, .c (iO .i64 (i : Int)))] }
def samesAnn (l m : List ChR) : LoopAnn where
  γ := Nat
  pre := fun i => i ≤ l.length ∧ i ≤ m.length ∧ ∀ j, j < i → sameCh (l.getD j noCh) (m.getD j noCh) = true
  μ := fun i => l.length - i
  items := fun i => [(5, .c (iO .i64 (i : Int)))]
def c4 : List (Nat × Ctr) := [(67, padC)]
def c5 : List (Nat × Ctr) := [(44, sizeC), (45, putC), (46, paddedC)]
def c6 : List (Nat × Ctr) := [(47, putC), (48, paddedC)]
def c7 : List (Nat × Ctr) := [(65, getC 8), (67, padC), (57, partC), (68, nzC), (54, cloneC)]
def c8 : List (Nat × Ctr) := [(49, firstC)]
def c9 : List (Nat × Ctr) := [(50, numC), (51, padC)]
def c10 : List (Nat × Ctr) := [(25, sameC)]
end Go.ZR

/- Chunks: walks -/
namespace Go.ZR
open Go.Proofs
open Go.Z Go.ZM Go.RowKit
set_option maxRecDepth 100000
theorem bytes45 : Try.prog.types[(45 : Nat)].bytes = 32 := by kernel_rfl
theorem size45 : Try.prog.types[(45 : Nat)].size = 3 := by kernel_rfl
theorem chB_len (c : ChR) : (chB c).length = 4 + c.v.length + padN c.v.length := by simp [chB, be_len, padF_len]; omega
theorem putB_take {l : List ChR} {i : Nat} (h : i < l.length) : putB (l.take (i + 1)) = putB (l.take i) ++ chB (l.getD i noCh) := by
  unfold putB
  rw [List.take_succ_eq_append_getElem h, List.flatMap_append, show l.getD i noCh = l[i] by simp [List.getD, List.getElem?_eq_getElem h]]
  simp
theorem getD_mem {α : Type} {l : List α} {d : α} {i : Nat} (h : i < l.length) : l.getD i d ∈ l := by
  rw [show l.getD i d = l[i] by simp [List.getD, List.getElem?_eq_getElem h]]; exact List.getElem_mem h
theorem ch_cell {l : List ChR} {i : Nat} {c : ChR} (h : l.getD i noCh = c) {j : Nat} (hj : j < 3) : [D.v (.int .u8 c.t), D.v (.int .u8 c.f), D.ints .u8 c.v].getD j (D.v undef) = chCell l i j := by
  subst h
  match j, hj with
  | 0, _ => rfl
  | 1, _ => rfl
  | 2, _ => rfl
theorem blt_t {a b : Nat} (h : a < b) : a.blt b = true := by simpa [Nat.blt_eq] using h
theorem blt_f {a b : Nat} (h : ¬ a < b) : a.blt b = false := by
  cases e : a.blt b with
  | false => rfl
  | true => exact absurd (by simpa [Nat.blt_eq] using e) h
theorem app_ch (l : List ChR) (c : ChR) {i j : Nat} (hi : i < l.length + 1) (hj : j < 3) :
    (bif i.blt l.length then chCell l i j else [D.v (.int .u8 c.t), D.v (.int .u8 c.f), D.ints .u8 c.v].getD ((i - l.length) * 3 + j) (D.v undef)) = chCell (l ++ [c]) i j := by
  by_cases h : i < l.length
  · have e : (l ++ [c]).getD i noCh = l.getD i noCh := by simp [List.getD, List.getElem?_append_left h]
    rw [blt_t h, _root_.cond_true]
    unfold chCell
    rw [e]
  · have hi' : i = l.length := by omega
    have e : (l ++ [c]).getD i noCh = c := by subst hi'; simp [List.getD]
    rw [blt_f h, _root_.cond_false, show (i - l.length) * 3 + j = j by omega]
    exact ch_cell e hj
theorem take_ch {l : List ChR} {i : Nat} (h : i < l.length) : l.take (i + 1) = l.take i ++ [l.getD i noCh] := by
  rw [List.take_succ_eq_append_getElem h, show l.getD i noCh = l[i] by simp [List.getD, List.getElem?_eq_getElem h]]
theorem bytes_dec (a b : ByteArray) : decide (a.data.toList = b.data.toList) = decide (a = b) := by
  rw [decide_eq_decide]
  constructor
  · intro h
    cases a; cases b
    simp only [ByteArray.mk.injEq]
    exact Array.ext' h
  · rintro rfl; rfl
theorem toNat2 : Int.toNat 2 = 2 := rfl
theorem toNat4 : Int.toNat 4 = 4 := rfl
theorem toNat0 : Int.toNat 0 = 0 := rfl
theorem toNat1 : Int.toNat 1 = 1 := rfl
theorem chB_eta (c : ChR) : chB ⟨c.t, c.f, c.v⟩ = chB c := rfl
theorem putB_mono (l : List ChR) (i : Nat) : (putB (l.take i)).length ≤ (putB l).length := by
  have : putB l = putB (l.take i) ++ putB (l.drop i) := by
    unfold putB; rw [← List.flatMap_append, List.take_append_drop]
  rw [this, List.length_append]; omega
theorem put_err1 {l : List ChR} (h : 32 < l.length) : putR l = ([], 4) := by unfold putR; rw [if_pos (.inl h)]
theorem put_err2 {l : List ChR} {i : Nat} (h : 4096 < (putB (l.take i)).length) : putR l = ([], 4) := by
  have := putB_mono l i
  unfold putR; rw [if_pos (.inr (by omega))]
theorem put_ok {l : List ChR} (h : l.length ≤ 32) (h' : (putB l).length ≤ 4096) : putR l = (putB l, 0) := by
  unfold putR; rw [if_neg (by omega)]
theorem wrap_len {n : Nat} (h : n ≤ 1099511627776) : IntKind.u64.wrap (IntKind.i64.wrap (4 + (n : Int))) = 4 + (n : Int) := by
  rw [wrap_i64_id (by omega) (by omega), IntKind.wrap_u64]; omega
theorem putB_step {l : List ChR} {g : Nat} (h : g < l.length) : putB (l.take g) ++ [(l.getD g noCh).t, (l.getD g noCh).f] ++ be (4 + ((l.getD g noCh).v.length : Int)) 2 ++ padF (l.getD g noCh).v = putB (l.take (g + 1)) := by
  rw [putB_take h]; simp [chB]
theorem first_short {b : List Int} (h : b.length < 4) : firstF b = (noCh, 0, 3) := by unfold firstF; rw [if_pos h]
theorem first_form {b : List Int} (h : ¬ b.length < 4) (h1 : numF b < 4) : firstF b = (noCh, 0, 2) := by unfold firstF; rw [if_neg h, if_pos h1]
theorem first_short2 {b : List Int} (h : ¬ b.length < 4) (h1 : ¬ numF b < 4) (h2 : b.length < numF b + padN (numF b)) : firstF b = (noCh, 0, 3) := by
  unfold firstF; rw [if_neg h, if_neg h1, if_pos h2]
theorem first_form2 {b : List Int} (h : ¬ b.length < 4) (h1 : ¬ numF b < 4) (h2 : ¬ b.length < numF b + padN (numF b)) (h3 : someNZ ((b.drop (numF b)).take (padN (numF b))) = true) : firstF b = (noCh, 0, 2) := by
  unfold firstF; rw [if_neg h, if_neg h1, if_neg h2, if_pos h3]
theorem first_ok {b : List Int} (h : ¬ b.length < 4) (h1 : ¬ numF b < 4) (h2 : ¬ b.length < numF b + padN (numF b)) (h3 : someNZ ((b.drop (numF b)).take (padN (numF b))) = false) :
    firstF b = (⟨b.getD 0 0, b.getD 1 0, (b.drop 4).take (numF b - 4)⟩, numF b + padN (numF b), 0) := by
  unfold firstF; rw [if_neg h, if_neg h1, if_neg h2, if_neg (by rw [h3]; simp)]
theorem num_lt {b : List Int} (hb : okB b) : 0 ≤ valF ((b.drop 2).take 2) ∧ valF ((b.drop 2).take 2) < 65536 := by
  have h := okB_take (okB_drop hb 2) 2
  have h1 := val_lt h
  have h2 : ((b.drop 2).take 2).length ≤ 2 := List.length_take_le _ _
  have h3 : ∀ k : Nat, k ≤ 2 → (256 : Int) ^ k ≤ 65536 := by decide
  have := h3 _ h2
  exact ⟨val_nonneg h, by omega⟩
theorem first_all {b : List Int} (h : (firstF b).2.2 = 0) : (firstF b).2.1 ≤ b.length ∧ 4 ≤ (firstF b).2.1 := by
  by_cases h0 : b.length < 4
  · rw [first_short h0] at h; cases h
  by_cases h1 : numF b < 4
  · rw [first_form h0 h1] at h; cases h
  by_cases h2 : b.length < numF b + padN (numF b)
  · rw [first_short2 h0 h1 h2] at h; cases h
  cases h3 : someNZ ((b.drop (numF b)).take (padN (numF b))) with
  | true => rw [first_form2 h0 h1 h2 h3] at h; cases h
  | false => rw [first_ok h0 h1 h2 h3]; simp only; omega
theorem getG_nil {f : Nat} {l : List ChR} : getG (f + 1) l [] = (l, 0) := by rw [getG, if_pos List.length_nil]
theorem getG_full {f : Nat} {l : List ChR} {b : List Int} (hb : b.length ≠ 0) (h : 32 ≤ l.length) : getG (f + 1) l b = ([], 4) := by rw [getG, if_neg hb, if_pos h]
theorem getG_err {f : Nat} {l : List ChR} {b : List Int} (hb : b.length ≠ 0) (h : ¬ 32 ≤ l.length) (he : ¬ (firstF b).2.2 = 0) : getG (f + 1) l b = ([], (firstF b).2.2) := by rw [getG, if_neg hb, if_neg h, if_neg he]
theorem getG_step {f : Nat} {l : List ChR} {b : List Int} (hb : b.length ≠ 0) (h : ¬ 32 ≤ l.length) (he : (firstF b).2.2 = 0) : getG (f + 1) l b = getG f (l ++ [(firstF b).1]) (b.drop (firstF b).2.1) := by
  rw [getG, if_neg hb, if_neg h, if_pos he]
theorem getR_big {b : List Int} (h : 4096 < b.length) : getR b = ([], 4) := by unfold getR; rw [if_pos h]
theorem getR_eq {b : List Int} (h : ¬ 4096 < b.length) : getR b = getG 33 [] b := by unfold getR; rw [if_neg h]
theorem getD_drop {α : Type} (l : List α) (n i : Nat) (d : α) : (l.drop n).getD i d = l.getD (n + i) d := by simp [List.getD, List.getElem?_drop]
theorem nz_true {b : List Int} (hb : okB b) {n k j : Nat} (h1 : n ≤ j) (h2 : j < n + k) (h3 : j < b.length) (h : ¬ b.getD j 0 = 0) : someNZ ((b.drop n).take k) = true := by
  rw [someNZ, List.any_eq_true]
  have := okB_getD hb j
  refine ⟨b.getD j 0, ?_, decide_eq_true (by omega)⟩
  have hl : j - n < ((b.drop n).take k).length := by rw [List.length_take, List.length_drop]; omega
  have e : ((b.drop n).take k).getD (j - n) 0 = b.getD j 0 := by
    simp only [List.getD, List.getElem?_take, List.getElem?_drop]
    rw [if_pos (by omega), show n + (j - n) = j by omega]
  rw [← e]; exact getD_mem hl
theorem nz_false {b : List Int} {n k : Nat} (h : ∀ j, n ≤ j → j < n + k → b.getD j 0 = 0) : someNZ ((b.drop n).take k) = false := by
  rw [someNZ, List.any_eq_false]
  intro x hx
  obtain ⟨i, hi, rfl⟩ := List.mem_iff_getElem.1 hx
  have hl : i < k ∧ i < b.length - n := by rw [List.length_take, List.length_drop] at hi; omega
  have := h (n + i) (by omega) (by omega)
  have e : ((b.drop n).take k)[i] = b.getD (n + i) 0 := by
    rw [List.getElem_take, List.getElem_drop]
    simp [List.getD, List.getElem?_eq_getElem (show n + i < b.length by omega)]
  rw [e, this]; simp
theorem sames_false {l m : List ChR} {g : Nat} (h1 : g < l.length) (h2 : g < m.length) (h : sameCh (l.getD g noCh) (m.getD g noCh) = false) : sameChs l m = false := by
  have : ((List.range (min l.length m.length)).all fun i => sameCh (l.getD i noCh) (m.getD i noCh)) = false := by
    rw [List.all_eq_false]
    exact ⟨g, List.mem_range.2 (by omega), by simpa using h⟩
  unfold sameChs; rw [this]; rfl
theorem sames_end {l m : List ChR} {g : Nat} (hg : min l.length m.length ≤ g) (h : ∀ j, j < g → sameCh (l.getD j noCh) (m.getD j noCh) = true) : decide ((l.length : Int) = (m.length : Int)) = sameChs l m := by
  have : ((List.range (min l.length m.length)).all fun i => sameCh (l.getD i noCh) (m.getD i noCh)) = true := by
    rw [List.all_eq_true]
    intro x hx
    exact h x (by have := List.mem_range.1 hx; omega)
  unfold sameChs; rw [this, Bool.true_and]
  congr 1; apply propext; omega
noncomputable def i68c75 : Code := match Try.f75.body with | some c => c | none => .skip
noncomputable def i68_75 : InlF := ⟨i68c75, Try.f75.ntmps, Try.f75.results.toList, anns [(2, firstAnn)]⟩
noncomputable def i68c69 : Code := match Try.f69.body with | some c => c | none => .skip
noncomputable def i68_69 : InlF := ⟨i68c69, Try.f69.ntmps, Try.f69.results.toList, anns []⟩
noncomputable def i68 : List (Nat × InlF) := [(75, i68_75), (69, i68_69)]
theorem i68_ok : InlsOk Try.prog i68 := ⟨inlOk Try.func75 (by kernel_rfl) (by kernel_rfl), inlOk Try.func69 (by kernel_rfl) (by kernel_rfl), trivial⟩
noncomputable def i17c14 : Code := match Try.f14.body with | some c => c | none => .skip
noncomputable def i17_14 : InlF := ⟨i17c14, Try.f14.ntmps, Try.f14.results.toList, anns [] [] [(5, 3), (13, 3)]⟩
noncomputable def i17c44 : Code := match Try.f44.body with | some c => c | none => .skip
noncomputable def i17_44 : InlF := ⟨i17c44, Try.f44.ntmps, Try.f44.results.toList, anns []⟩
noncomputable def i17c45 : Code := match Try.f45.body with | some c => c | none => .skip
noncomputable def i17_45 : InlF := ⟨i17c45, Try.f45.ntmps, Try.f45.results.toList, anns [] [] [(5, 3)]⟩
noncomputable def i17c46 : Code := match Try.f46.body with | some c => c | none => .skip
noncomputable def i17_46 : InlF := ⟨i17c46, Try.f46.ntmps, Try.f46.results.toList, anns []⟩
noncomputable def i17c54 : Code := match Try.f54.body with | some c => c | none => .skip
noncomputable def i17_54 : InlF := ⟨i17c54, Try.f54.ntmps, Try.f54.results.toList, anns []⟩
noncomputable def i17c67 : Code := match Try.f67.body with | some c => c | none => .skip
noncomputable def i17_67 : InlF := ⟨i17c67, Try.f67.ntmps, Try.f67.results.toList, anns []⟩
noncomputable def i17 : List (Nat × InlF) := [(14, i17_14), (44, i17_44), (45, i17_45), (46, i17_46), (54, i17_54), (67, i17_67)]
theorem i17_ok : InlsOk Try.prog i17 := ⟨inlOk Try.func14 (by kernel_rfl) (by kernel_rfl), inlOk Try.func44 (by kernel_rfl) (by kernel_rfl), inlOk Try.func45 (by kernel_rfl) (by kernel_rfl), inlOk Try.func46 (by kernel_rfl) (by kernel_rfl), inlOk Try.func54 (by kernel_rfl) (by kernel_rfl), inlOk Try.func67 (by kernel_rfl) (by kernel_rfl), trivial⟩
noncomputable def code15 : Code := match Try.f15.body with | some c => c | none => .skip
set_option maxHeartbeats 4000000 in
theorem vc15 : ∀ (l : List ChR), okChs l → ∃ (g0 : Nat), g0 ≤ l.length ∧ (0 : Int) = (↑g0 : Int) ∧ (List.take g0 l).length = (0 : Nat) ∧ (true && true) = true ∧ ∀ (g : Nat), g ≤ l.length →
  True ∧ sw (decide ((↑g : Int) < (↑l.length : Int))) (((0 : Int) ≤ (↑g : Int) ∧ (↑g : Int) < (↑l.length : Int)) ∧ True ∧ ((0 : Nat) + (l.getD (↑g : Int).toNat noCh).v.length) * Try.prog.types[(5 : Nat)].bytes ≤ (140737488355328 : Nat) ∧
  True ∧ ((List.take g l).length + (1 : Nat)) * Try.prog.types[(45 : Nat)].bytes ≤ (140737488355328 : Nat) ∧ True ∧ ∃ (g' : Nat), g' ≤ l.length ∧ l.length - g' < l.length - g ∧
  (IntKind.i64.wrap ((↑g : Int) + (1 : Int)) = (↑g' : Int) ∧ ((List.take g l).length + (1 : Nat) = (List.take g' l).length ∧ ∀ (i : Nat), i < (List.take g l).length + (1 : Nat) →
  ∀ (j : Nat), j < (3 : Nat) → (bif i.blt (List.take g l).length then chCell (List.take g l) i j else [D.v (Value.int IntKind.u8 (l.getD (↑g : Int).toNat noCh).t), D.v (Value.int IntKind.u8 (l.getD (↑g : Int).toNat noCh).f), D.ints IntKind.u8 ([] ++ (l.getD (↑g : Int).toNat noCh).v)].getD ((i - (List.take g l).length) * Try.prog.types[(45 : Nat)].size + j) (D.v undef)) = chCell (List.take g' l) i j) ∧
  (!false && true && true && ((Nat.ble (1 : Nat) (7 : Nat) || false) && true)) = true) ∧ (some SV.nil = some SV.nil ∧ some (SV.a (0 : Nat)) = some (SV.a (0 : Nat)) ∧
  True) ∧ some (R.ro (D.recs (3 : Nat) l.length (chCell l))) = some (R.ro (D.recs (3 : Nat) l.length (chCell l))) ∧ True) (((List.take g l).length = (chsOf (D.recs (3 : Nat) l.length (chCell l))).length ∧
  ∀ (i : Nat), i < (List.take g l).length → ∀ (j : Nat), j < (3 : Nat) → chCell (List.take g l) i j = chCell (chsOf (D.recs (3 : Nat) l.length (chCell l))) i j) ∧
  (!false && true && true) = true) := by
  simp only [↓sw_iff, ↓Bool.and_eq_true, ↓decide_eq_true_eq, ↓decide_eq_false_iff_not, ↓Bool.not_eq_true', true_and, and_true, Bool.or_false, Nat.ble, Int.toNat_natCast, Nat.zero_add, List.nil_append, Nat.mul_one, bytes5, bytes45, size45, chsOf_chs]
  intro l h
  obtain ⟨h1, h2⟩ := h
  refine ⟨0, Nat.zero_le _, rfl, rfl, ?_⟩
  intro g hg
  refine ⟨fun hlt => ?_, fun hge => ?_⟩
  · have hlt : g < l.length := by omega
    have hs := h2 _ (getD_mem (d := noCh) hlt)
    unfold sm at hs
    have ht : (l.take g).length = g := by rw [List.length_take]; omega
    refine ⟨⟨by omega, by omega⟩, by omega, by omega, g + 1, hlt, by omega, by rw [wrap_i64_id (by omega) (by omega)]; rfl, by rw [take_ch hlt]; simp, ?_⟩
    intro i hi j hj
    rw [take_ch hlt]
    exact app_ch _ _ hi hj
  · have : l.take g = l := List.take_of_length_le (by omega)
    rw [this]
    exact ⟨rfl, fun _ _ _ _ => rfl⟩
set_option maxRecDepth 100000 in
theorem ok15 : FnIs Try.prog 15 ownC := by
  refine fnIs (C := (ctrs c0)) (by kernel_rfl) c0_ok Try.func15 (code := code15) (by kernel_rfl) (by kernel_rfl) ?_
  rintro a ⟨l, rfl, h⟩
  exact ⟨anns [(3, ownAnn l)], kcast (vc15 l h) (by kernel_rfl)⟩

theorem c4_ok : COk Try.prog (ctrs c4) := cok_cons ok67 cok_nil

noncomputable def code44 : Code := match Try.f44.body with | some c => c | none => .skip
set_option maxHeartbeats 4000000 in
theorem vc44 : ∀ (c : ChR), okCh c → True ∧ (∃ (n : Nat), [O.d (D.v (Value.int IntKind.i64 (↑c.v.length : Int)))] = [O.d (D.v (Value.int IntKind.i64 (↑n : Int)))] ∧ n ≤ (2199023255552 : Nat)) ∧
  True ∧ IntKind.i64.wrap (IntKind.i64.wrap ((4 : Int) + (↑c.v.length : Int)) + (↑(padN (vi (D.v (Value.int IntKind.i64 (↑c.v.length : Int)))).toNat) : Int)) = (↑(chB (ChR.mk (vi (D.v (Value.int IntKind.u8 c.t))) (vi (D.v (Value.int IntKind.u8 c.f))) (vl (D.ints IntKind.u8 c.v)))).length : Int) ∧
  (true && true) = true := by
  simp only [↓Bool.and_eq_true, true_and, and_true, Int.toNat_natCast, vi, vl, chB_len]
  intro c h
  have h' := h
  unfold okCh sm at h'
  have := padN_le c.v.length
  refine ⟨⟨_, rfl, by omega⟩, ?_⟩
  rw [wrap_i64_id (n := 4 + (c.v.length : Int)) (by omega) (by omega), wrap_i64_id (by omega) (by omega)]
  omega
set_option maxRecDepth 100000 in
theorem ok44 : FnIs Try.prog 44 sizeC := by
  refine fnIs (C := (ctrs c4)) (by kernel_rfl) c4_ok Try.func44 (code := code44) (by kernel_rfl) (by kernel_rfl) ?_
  rintro a ⟨c, rfl, h⟩
  exact ⟨anns [], kcast (vc44 c h) (by kernel_rfl)⟩

theorem c5_ok : COk Try.prog (ctrs c5) := cok_cons ok44 (cok_cons ok45 (cok_cons ok46 cok_nil))
theorem c6_ok : COk Try.prog (ctrs c6) := cok_cons ok47 (cok_cons ok48 cok_nil)

noncomputable def code14 : Code := match Try.f14.body with | some c => c | none => .skip
set_option maxHeartbeats 4000000 in
theorem vc14 : ∀ (l : List ChR), okChs l → True ∧ sw (decide ((32 : Int) < (↑l.length : Int))) ((putR (chsOf (D.recs (3 : Nat) l.length (chCell l)))).fst = [] ∧ (4 : Int) = (putR (chsOf (D.recs (3 : Nat) l.length (chCell l)))).snd ∧
  (true && true) = true) (∃ (g0 : Nat), (g0 ≤ l.length ∧ (putB (List.take g0 l)).length ≤ (4096 : Nat)) ∧ (0 : Int) = (↑g0 : Int) ∧ (0 : Int) = (↑(putB (List.take g0 l)).length : Int) ∧
  (true && true) = true ∧ ∀ (g : Nat), g ≤ l.length ∧ (putB (List.take g l)).length ≤ (4096 : Nat) → True ∧ sw (decide ((↑g : Int) < (↑l.length : Int))) (((0 : Int) ≤ (↑g : Int) ∧
  (↑g : Int) < (↑l.length : Int)) ∧ (∃ (c : ChR), [O.agg [O.d (D.v (Value.int IntKind.u8 (l.getD (↑g : Int).toNat noCh).t)), O.d (D.v (Value.int IntKind.u8 (l.getD (↑g : Int).toNat noCh).f)), O.d (D.ints IntKind.u8 (l.getD (↑g : Int).toNat noCh).v)]] = [O.agg [O.d (D.v (Value.int IntKind.u8 c.t)), O.d (D.v (Value.int IntKind.u8 c.f)), O.d (D.ints IntKind.u8 c.v)]] ∧
  okCh c) ∧ True ∧ True ∧ sw (decide ((4096 : Int) < IntKind.i64.wrap ((↑(putB (List.take g l)).length : Int) + (↑(chB (ChR.mk (vi (D.v (Value.int IntKind.u8 (l.getD (↑g : Int).toNat noCh).t))) (vi (D.v (Value.int IntKind.u8 (l.getD (↑g : Int).toNat noCh).f))) (vl (D.ints IntKind.u8 (l.getD (↑g : Int).toNat noCh).v)))).length : Int)))) ((putR (chsOf (D.recs (3 : Nat) l.length (chCell l)))).fst = [] ∧
  (4 : Int) = (putR (chsOf (D.recs (3 : Nat) l.length (chCell l)))).snd ∧ (true && true) = true) (True ∧ ∃ (g' : Nat), (g' ≤ l.length ∧ (putB (List.take g' l)).length ≤ (4096 : Nat)) ∧
  l.length - g' < l.length - g ∧ (IntKind.i64.wrap ((↑g : Int) + (1 : Int)) = (↑g' : Int) ∧ IntKind.i64.wrap ((↑(putB (List.take g l)).length : Int) + (↑(chB (ChR.mk (vi (D.v (Value.int IntKind.u8 (l.getD (↑g : Int).toNat noCh).t))) (vi (D.v (Value.int IntKind.u8 (l.getD (↑g : Int).toNat noCh).f))) (vl (D.ints IntKind.u8 (l.getD (↑g : Int).toNat noCh).v)))).length : Int)) = (↑(putB (List.take g' l)).length : Int) ∧
  (true && true && true) = true) ∧ (some (SV.c (Value.int IntKind.i64 (↑l.length : Int))) = some (SV.c (Value.int IntKind.i64 (↑l.length : Int))) ∧ some (SV.a (0 : Nat)) = some (SV.a (0 : Nat)) ∧
  some (SV.c (Value.bool (decide ((32 : Int) < (↑l.length : Int))))) = some (SV.c (Value.bool (decide ((32 : Int) < (↑l.length : Int))))) ∧ some (SV.c (Value.int IntKind.i64 (↑l.length : Int))) = some (SV.c (Value.int IntKind.i64 (↑l.length : Int))) ∧
  some (SV.a (0 : Nat)) = some (SV.a (0 : Nat)) ∧ some (SV.a (0 : Nat)) = some (SV.a (0 : Nat)) ∧ True) ∧ some (R.ro (D.recs (3 : Nat) l.length (chCell l))) = some (R.ro (D.recs (3 : Nat) l.length (chCell l))) ∧
  True)) (∃ (g0_1 : Nat), (g0_1 ≤ l.length ∧ (putB (List.take g0_1 l)).length ≤ (4096 : Nat)) ∧ (0 : Int) = (↑g0_1 : Int) ∧ putB (List.take g0_1 l) = [] ∧
  (true && true) = true ∧ ∀ (g_1 : Nat), g_1 ≤ l.length ∧ (putB (List.take g_1 l)).length ≤ (4096 : Nat) → True ∧ sw (decide ((↑g_1 : Int) < (↑l.length : Int))) (((0 : Int) ≤ (↑g_1 : Int) ∧
  (↑g_1 : Int) < (↑l.length : Int)) ∧ True ∧ ((True ∧ ((putB (List.take g_1 l)).length + (2 : Nat)) * Try.prog.types[(5 : Nat)].bytes ≤ (140737488355328 : Nat) ∧
  ((∃ (b : List Int), ∃ (n : Int), ∃ (k : Nat), [O.d (D.ints IntKind.u8 (putB (List.take g_1 l) ++ [(l.getD (↑g_1 : Int).toNat noCh).t, (l.getD (↑g_1 : Int).toNat noCh).f])), O.d (D.v (Value.int IntKind.u64 (IntKind.u64.wrap (IntKind.i64.wrap ((4 : Int) + (↑(l.getD (↑g_1 : Int).toNat noCh).v.length : Int)))))), O.d (D.v (Value.int IntKind.i64 (2 : Int)))] = [O.d (D.ints IntKind.u8 b), O.d (D.v (Value.int IntKind.u64 n)), O.d (D.v (Value.int IntKind.i64 (↑k : Int)))] ∧
  sm b.length ∧ (1 : Nat) ≤ k ∧ k ≤ (8 : Nat)) ∧ (∃ (l_1 : List Int), [O.d (D.ints IntKind.u8 (l.getD (↑g_1 : Int).toNat noCh).v)] = [O.d (D.ints IntKind.u8 l_1)] ∧
  sm l_1.length) ∧ True ∧ ((vl (D.ints IntKind.u8 (putB (List.take g_1 l) ++ [(l.getD (↑g_1 : Int).toNat noCh).t, (l.getD (↑g_1 : Int).toNat noCh).f])) ++ be (vi (D.v (Value.int IntKind.u64 (IntKind.u64.wrap (IntKind.i64.wrap ((4 : Int) + (↑(l.getD (↑g_1 : Int).toNat noCh).v.length : Int))))))) (vi (D.v (Value.int IntKind.i64 (2 : Int)))).toNat).length + (padF (vl (D.ints IntKind.u8 (l.getD (↑g_1 : Int).toNat noCh).v))).length) * Try.prog.types[(5 : Nat)].bytes ≤ (140737488355328 : Nat) ∧
  True ∧ ∃ (g' : Nat), (g' ≤ l.length ∧ (putB (List.take g' l)).length ≤ (4096 : Nat)) ∧ l.length - g' < l.length - g_1 ∧ (IntKind.i64.wrap ((↑g_1 : Int) + (1 : Int)) = (↑g' : Int) ∧
  vl (D.ints IntKind.u8 (putB (List.take g_1 l) ++ [(l.getD (↑g_1 : Int).toNat noCh).t, (l.getD (↑g_1 : Int).toNat noCh).f])) ++ be (vi (D.v (Value.int IntKind.u64 (IntKind.u64.wrap (IntKind.i64.wrap ((4 : Int) + (↑(l.getD (↑g_1 : Int).toNat noCh).v.length : Int))))))) (vi (D.v (Value.int IntKind.i64 (2 : Int)))).toNat ++ padF (vl (D.ints IntKind.u8 (l.getD (↑g_1 : Int).toNat noCh).v)) = putB (List.take g' l) ∧
  (!false && true && true && ((Nat.ble (1 : Nat) (8 : Nat) || false) && true)) = true) ∧ (some (SV.c (Value.int IntKind.i64 (↑l.length : Int))) = some (SV.c (Value.int IntKind.i64 (↑l.length : Int))) ∧
  some (SV.a (0 : Nat)) = some (SV.a (0 : Nat)) ∧ some (SV.c (Value.bool (decide ((↑g : Int) < (↑l.length : Int))))) = some (SV.c (Value.bool (decide ((↑g : Int) < (↑l.length : Int))))) ∧
  some (SV.c (Value.int IntKind.i64 (↑g : Int))) = some (SV.c (Value.int IntKind.i64 (↑g : Int))) ∧ some (SV.c (Value.int IntKind.i64 (↑(putB (List.take g l)).length : Int))) = some (SV.c (Value.int IntKind.i64 (↑(putB (List.take g l)).length : Int))) ∧
  some (SV.c (Value.int IntKind.i64 (↑l.length : Int))) = some (SV.c (Value.int IntKind.i64 (↑l.length : Int))) ∧ some (SV.a (0 : Nat)) = some (SV.a (0 : Nat)) ∧
  some (SV.c (Value.bool (decide ((32 : Int) < (↑l.length : Int))))) = some (SV.c (Value.bool (decide ((32 : Int) < (↑l.length : Int))))) ∧ some (SV.c (Value.int IntKind.i64 (↑l.length : Int))) = some (SV.c (Value.int IntKind.i64 (↑l.length : Int))) ∧
  some (SV.a (0 : Nat)) = some (SV.a (0 : Nat)) ∧ some (SV.a (0 : Nat)) = some (SV.a (0 : Nat)) ∧ True) ∧ some (R.ro (D.recs (3 : Nat) l.length (chCell l))) = some (R.ro (D.recs (3 : Nat) l.length (chCell l))) ∧
  True) ∧ True) ∧ True) ∧ True) (putB (List.take g_1 l) = (putR (chsOf (D.recs (3 : Nat) l.length (chCell l)))).fst ∧ (0 : Int) = (putR (chsOf (D.recs (3 : Nat) l.length (chCell l)))).snd ∧
  (!false && true && true) = true))) := by
  simp only [↓sw_iff, ↓Bool.and_eq_true, ↓decide_eq_true_eq, ↓decide_eq_false_iff_not, ↓Bool.not_eq_true', true_and, and_true, Bool.or_false, Nat.ble, Int.toNat_natCast, vi, vl, Nat.zero_add, List.length_cons, List.length_nil, List.length_append, Nat.mul_one, bytes5, chsOf_chs, chB_eta, be_len, toNat2]
  intro l h
  obtain ⟨h1, h2⟩ := h
  refine ⟨fun t => by rw [put_err1 (by omega)]; exact ⟨rfl, rfl⟩, fun t => ⟨0, ⟨Nat.zero_le _, by simp [putB]⟩, rfl, rfl, ?_⟩⟩
  rintro g ⟨hg, hb⟩
  refine ⟨fun hlt => ?_, fun hge => ⟨0, ⟨Nat.zero_le _, by simp [putB]⟩, rfl, rfl, ?_⟩⟩
  · have hlt : g < l.length := by omega
    have hs := h2 _ (getD_mem (d := noCh) hlt)
    have hst := congrArg List.length (putB_take hlt)
    rw [List.length_append] at hst
    have hcl := chB_len (l.getD g noCh)
    have hp := padN_le (l.getD g noCh).v.length
    have hs' := hs
    unfold sm at hs'
    have e : IntKind.i64.wrap (((putB (l.take g)).length : Int) + ((chB (l.getD g noCh)).length : Int)) = ((putB (l.take (g + 1))).length : Int) := by
      rw [wrap_i64_id (by omega) (by omega)]; omega
    rw [e]
    refine ⟨⟨by omega, by omega⟩, ⟨l.getD g noCh, rfl, hs⟩, fun hx => ?_, fun hx => ⟨g + 1, ⟨hlt, by omega⟩, by omega, by rw [wrap_i64_id (by omega) (by omega)]; rfl, rfl⟩⟩
    rw [put_err2 (i := g + 1) (by omega)]; exact ⟨rfl, rfl⟩
  have hall : (putB l).length ≤ 4096 := by
    rwa [List.take_of_length_le (by omega)] at hb
  rintro k ⟨hk, hb2⟩
  refine ⟨fun hlt => ?_, fun hge => ?_⟩
  · have hlt : k < l.length := by omega
    have hs := h2 _ (getD_mem (d := noCh) hlt)
    have hst := congrArg List.length (putB_take hlt)
    rw [List.length_append, chB_len] at hst
    have hm := putB_mono l (k + 1)
    have hs' := hs
    unfold sm at hs'
    rw [wrap_len hs', padF_len]
    refine ⟨⟨by omega, by omega⟩, by omega, ⟨_, _, 2, rfl, ?_, by omega, by omega⟩, ⟨_, rfl, hs⟩, by omega, k + 1, ⟨hlt, by omega⟩, by omega, by rw [wrap_i64_id (by omega) (by omega)]; rfl, putB_step hlt⟩
    unfold sm; simp; omega
  · have : l.take k = l := List.take_of_length_le (by omega)
    rw [this, put_ok (by omega) hall]
    exact ⟨rfl, rfl⟩
set_option maxRecDepth 100000 in
theorem ok14 : FnIs Try.prog 14 putsC := by
  refine fnIs (C := (ctrs c5)) (by kernel_rfl) c5_ok Try.func14 (code := code14) (by kernel_rfl) (by kernel_rfl) ?_
  rintro a ⟨l, rfl, h⟩
  exact ⟨anns [(5, sizeAnn l), (13, outAnn 28 7 l)], kcast (vc14 l h) (by kernel_rfl)⟩

noncomputable def code16 : Code := match Try.f16.body with | some c => c | none => .skip
set_option maxHeartbeats 4000000 in
theorem vc16 : ∀ (l : List ChR), okChs l → True ∧ sw (decide ((32 : Int) < (↑l.length : Int))) ((putR (chsOf (D.recs (3 : Nat) l.length (chCell l)))).fst = [] ∧ (4 : Int) = (putR (chsOf (D.recs (3 : Nat) l.length (chCell l)))).snd ∧
  (true && true) = true) (∃ (g0 : Nat), (g0 ≤ l.length ∧ (putB (List.take g0 l)).length ≤ (4096 : Nat)) ∧ (0 : Int) = (↑g0 : Int) ∧ putB (List.take g0 l) = [] ∧
  (true && true) = true ∧ ∀ (g : Nat), g ≤ l.length ∧ (putB (List.take g l)).length ≤ (4096 : Nat) → True ∧ sw (decide ((↑g : Int) < (↑l.length : Int))) (((0 : Int) ≤ (↑g : Int) ∧
  (↑g : Int) < (↑l.length : Int)) ∧ True ∧ sw (decide ((4096 : Int) < (↑(l.getD (↑g : Int).toNat noCh).v.length : Int))) ((putR (chsOf (D.recs (3 : Nat) l.length (chCell l)))).fst = [] ∧
  (4 : Int) = (putR (chsOf (D.recs (3 : Nat) l.length (chCell l)))).snd ∧ (true && true) = true) (True ∧ ((putB (List.take g l)).length + (2 : Nat)) * Try.prog.types[(5 : Nat)].bytes ≤ (140737488355328 : Nat) ∧
  True ∧ (∃ (b : List Int), ∃ (n : Int), ∃ (k : Nat), [O.d (D.ints IntKind.u8 (putB (List.take g l) ++ [(l.getD (↑g : Int).toNat noCh).t, (l.getD (↑g : Int).toNat noCh).f])), O.d (D.v (Value.int IntKind.u64 (IntKind.u64.wrap (IntKind.i64.wrap ((4 : Int) + (↑(l.getD (↑g : Int).toNat noCh).v.length : Int)))))), O.d (D.v (Value.int IntKind.i64 (2 : Int)))] = [O.d (D.ints IntKind.u8 b), O.d (D.v (Value.int IntKind.u64 n)), O.d (D.v (Value.int IntKind.i64 (↑k : Int)))] ∧
  sm b.length ∧ (1 : Nat) ≤ k ∧ k ≤ (8 : Nat)) ∧ (∃ (l_1 : List Int), [O.d (D.ints IntKind.u8 (l.getD (↑g : Int).toNat noCh).v)] = [O.d (D.ints IntKind.u8 l_1)] ∧
  sm l_1.length) ∧ True ∧ ((vl (D.ints IntKind.u8 (putB (List.take g l) ++ [(l.getD (↑g : Int).toNat noCh).t, (l.getD (↑g : Int).toNat noCh).f])) ++ be (vi (D.v (Value.int IntKind.u64 (IntKind.u64.wrap (IntKind.i64.wrap ((4 : Int) + (↑(l.getD (↑g : Int).toNat noCh).v.length : Int))))))) (vi (D.v (Value.int IntKind.i64 (2 : Int)))).toNat).length + (padF (vl (D.ints IntKind.u8 (l.getD (↑g : Int).toNat noCh).v))).length) * Try.prog.types[(5 : Nat)].bytes ≤ (140737488355328 : Nat) ∧
  True ∧ sw (decide ((4096 : Int) < (↑(vl (D.ints IntKind.u8 (putB (List.take g l) ++ [(l.getD (↑g : Int).toNat noCh).t, (l.getD (↑g : Int).toNat noCh).f])) ++ be (vi (D.v (Value.int IntKind.u64 (IntKind.u64.wrap (IntKind.i64.wrap ((4 : Int) + (↑(l.getD (↑g : Int).toNat noCh).v.length : Int))))))) (vi (D.v (Value.int IntKind.i64 (2 : Int)))).toNat ++ padF (vl (D.ints IntKind.u8 (l.getD (↑g : Int).toNat noCh).v))).length : Int))) ((putR (chsOf (D.recs (3 : Nat) l.length (chCell l)))).fst = [] ∧
  (4 : Int) = (putR (chsOf (D.recs (3 : Nat) l.length (chCell l)))).snd ∧ (true && true) = true) (True ∧ ∃ (g' : Nat), (g' ≤ l.length ∧ (putB (List.take g' l)).length ≤ (4096 : Nat)) ∧
  l.length - g' < l.length - g ∧ (IntKind.i64.wrap ((↑g : Int) + (1 : Int)) = (↑g' : Int) ∧ vl (D.ints IntKind.u8 (putB (List.take g l) ++ [(l.getD (↑g : Int).toNat noCh).t, (l.getD (↑g : Int).toNat noCh).f])) ++ be (vi (D.v (Value.int IntKind.u64 (IntKind.u64.wrap (IntKind.i64.wrap ((4 : Int) + (↑(l.getD (↑g : Int).toNat noCh).v.length : Int))))))) (vi (D.v (Value.int IntKind.i64 (2 : Int)))).toNat ++ padF (vl (D.ints IntKind.u8 (l.getD (↑g : Int).toNat noCh).v)) = putB (List.take g' l) ∧
  (!false && true && true && ((Nat.ble (1 : Nat) (8 : Nat) || false) && true)) = true) ∧ (some (SV.c (Value.bool (decide ((32 : Int) < (↑l.length : Int))))) = some (SV.c (Value.bool (decide ((32 : Int) < (↑l.length : Int))))) ∧
  some (SV.c (Value.int IntKind.i64 (↑l.length : Int))) = some (SV.c (Value.int IntKind.i64 (↑l.length : Int))) ∧ some (SV.a (0 : Nat)) = some (SV.a (0 : Nat)) ∧
  some (SV.a (0 : Nat)) = some (SV.a (0 : Nat)) ∧ True) ∧ some (R.ro (D.recs (3 : Nat) l.length (chCell l))) = some (R.ro (D.recs (3 : Nat) l.length (chCell l))) ∧
  True))) (putB (List.take g l) = (putR (chsOf (D.recs (3 : Nat) l.length (chCell l)))).fst ∧ (0 : Int) = (putR (chsOf (D.recs (3 : Nat) l.length (chCell l)))).snd ∧
  (!false && true && true) = true)) := by
  simp only [↓sw_iff, ↓Bool.and_eq_true, ↓decide_eq_true_eq, ↓decide_eq_false_iff_not, ↓Bool.not_eq_true', true_and, and_true, Bool.or_false, Nat.ble, Int.toNat_natCast, vi, vl, Nat.zero_add, List.length_cons, List.length_nil, List.length_append, Nat.mul_one, bytes5, chsOf_chs, be_len, toNat2, padF_len]
  intro l h
  obtain ⟨h1, h2⟩ := h
  refine ⟨fun t => by rw [put_err1 (by omega)]; exact ⟨rfl, rfl⟩, fun t => ⟨0, ⟨Nat.zero_le _, by simp [putB]⟩, rfl, rfl, ?_⟩⟩
  rintro g ⟨hg, hb⟩
  refine ⟨fun hlt => ?_, fun hge => ?_⟩
  · have hlt : g < l.length := by omega
    have hs := h2 _ (getD_mem (d := noCh) hlt)
    have hst := congrArg List.length (putB_take hlt)
    rw [List.length_append, chB_len] at hst
    have hp := padN_le (l.getD g noCh).v.length
    have hs' := hs
    unfold sm at hs'
    rw [wrap_len hs']
    have err : 4096 < (putB (l.take (g + 1))).length → (putR l).1 = [] ∧ 4 = (putR l).2 := fun hx => by
      rw [put_err2 (i := g + 1) hx]; exact ⟨rfl, rfl⟩
    refine ⟨⟨by omega, by omega⟩, fun hx => err (by omega), fun hx => ⟨by omega, ⟨_, _, 2, rfl, ?_, by omega, by omega⟩, ⟨_, rfl, hs⟩, by omega, fun hx => err (by omega), fun hx => ⟨g + 1, ⟨hlt, by omega⟩, by omega, by rw [wrap_i64_id (by omega) (by omega)]; rfl, putB_step hlt⟩⟩⟩
    unfold sm; simp; omega
  · have e : l.take g = l := List.take_of_length_le (by omega)
    rw [e] at hb ⊢
    rw [put_ok (by omega) hb]
    exact ⟨rfl, rfl⟩
set_option maxRecDepth 100000 in
theorem ok16 : FnIs Try.prog 16 putsC := by
  refine fnIs (C := (ctrs c6)) (by kernel_rfl) c6_ok Try.func16 (code := code16) (by kernel_rfl) (by kernel_rfl) ?_
  rintro a ⟨l, rfl, h⟩
  exact ⟨anns [(5, outAnn 5 4 l)], kcast (vc16 l h) (by kernel_rfl)⟩

noncomputable def code17 : Code := match Try.f17.body with | some c => c | none => .skip
set_option maxHeartbeats 4000000 in
theorem vc17 : True ∧ True ∧ ((0 : Int) ≤ (0 : Int) ∧ (0 : Int) < (↑(1 : Nat) : Int)) ∧ True ∧ (True ∧ True ∧ True ∧ True ∧ True ∧ True ∧ True ∧ True ∧ ((0 : Int) ≤ (0 : Int) ∧
  (0 : Int) < (↑(1 : Nat) : Int)) ∧ True ∧ ((True ∧ (2 : Nat) ≤ (140737488355328 : Nat) ∧ (∀ (t : Bool), (t = true → (2 : Nat) = (0 : Nat)) → sw t (True ∧
  SV.c (Value.int IntKind.i64 (2 : Int)) = SV.c (Value.int IntKind.i64 (2 : Int)) ∧ ([!decide ((2 : Int) < (1 : Int))] = [!decide ((2 : Int) < (1 : Int))] ∧
  True ∧ SV.c (Value.bool (decide ((8 : Int) < (2 : Int)))) = SV.c (Value.bool (decide ((8 : Int) < (2 : Int))))) ∧ [!decide ((2 : Int) < (1 : Int))] = [!decide ((2 : Int) < (1 : Int))] ∧
  True ∧ True ∧ True ∧ True ∧ (0 : Int) ≤ IntKind.i64.wrap ((8 : Int) * IntKind.i64.wrap (IntKind.i64.wrap ((2 : Int) - (1 : Int)) - (0 : Int))) ∧ True ∧
  (1 : Nat) ≤ (140737488355328 : Nat) ∧ True ∧ True ∧ True ∧ True ∧ True ∧ (0 : Int) ≤ IntKind.i64.wrap ((8 : Int) * IntKind.i64.wrap (IntKind.i64.wrap ((2 : Int) - (1 : Int)) - IntKind.i64.wrap ((0 : Int) + (1 : Int)))) ∧
  True ∧ (2 : Nat) ≤ (140737488355328 : Nat) ∧ True ∧ True ∧ ∀ (t_1 : Bool), (t_1 = true → (0 : Nat) = (0 : Nat)) → sw t_1 (True ∧ True ∧ ((0 : Int) ≤ bits BinOp.and IntKind.i64 (IntKind.i64.wrap ((0 : Int) - (↑(0 : Nat) : Int))) (3 : Int) ∧
  bits BinOp.and IntKind.i64 (IntKind.i64.wrap ((0 : Int) - (↑(0 : Nat) : Int))) (3 : Int) ≤ (9223372036854775807 : Int) ∧ (0 : Nat) ≤ (281474976710656 : Nat) ∧
  IntKind.u8 = IntKind.u8) ∧ (0 : Nat) ≤ (140737488355328 : Nat) ∧ True ∧ (2 : Nat) ≤ (140737488355328 : Nat) ∧ True ∧ True ∧ True ∧ True ∧ decide ((bstr [IntKind.u8.wrap ((IntKind.u64.wrap (IntKind.i64.wrap ((4 : Int) + (↑(0 : Nat) : Int)))).fdiv ((2 : Int) ^ min (IntKind.i64.wrap ((8 : Int) * IntKind.i64.wrap (IntKind.i64.wrap ((2 : Int) - (1 : Int)) - (0 : Int)))).toNat IntKind.u64.bits)), IntKind.u8.wrap ((IntKind.u64.wrap (IntKind.i64.wrap ((4 : Int) + (↑(0 : Nat) : Int)))).fdiv ((2 : Int) ^ min (IntKind.i64.wrap ((8 : Int) * IntKind.i64.wrap (IntKind.i64.wrap ((2 : Int) - (1 : Int)) - IntKind.i64.wrap ((0 : Int) + (1 : Int))))).toNat IntKind.u64.bits))]).data.toList = (ByteArray.mk #[(11 : UInt8), (0 : UInt8), (0 : UInt8), (4 : UInt8)]).data.toList) = true ∧
  (true && true) = true) (True ∧ (0 : Nat) ≤ (140737488355328 : Nat) ∧ True ∧ True ∧ ((0 : Int) ≤ bits BinOp.and IntKind.i64 (IntKind.i64.wrap ((0 : Int) - (↑(0 : Nat) : Int))) (3 : Int) ∧
  bits BinOp.and IntKind.i64 (IntKind.i64.wrap ((0 : Int) - (↑(0 : Nat) : Int))) (3 : Int) ≤ (9223372036854775807 : Int) ∧ (0 : Nat) ≤ (281474976710656 : Nat) ∧
  IntKind.u8 = IntKind.u8) ∧ (0 : Nat) ≤ (140737488355328 : Nat) ∧ True ∧ (2 : Nat) ≤ (140737488355328 : Nat) ∧ True ∧ True ∧ True ∧ True ∧ decide ((bstr [IntKind.u8.wrap ((IntKind.u64.wrap (IntKind.i64.wrap ((4 : Int) + (↑(0 : Nat) : Int)))).fdiv ((2 : Int) ^ min (IntKind.i64.wrap ((8 : Int) * IntKind.i64.wrap (IntKind.i64.wrap ((2 : Int) - (1 : Int)) - (0 : Int)))).toNat IntKind.u64.bits)), IntKind.u8.wrap ((IntKind.u64.wrap (IntKind.i64.wrap ((4 : Int) + (↑(0 : Nat) : Int)))).fdiv ((2 : Int) ^ min (IntKind.i64.wrap ((8 : Int) * IntKind.i64.wrap (IntKind.i64.wrap ((2 : Int) - (1 : Int)) - IntKind.i64.wrap ((0 : Int) + (1 : Int))))).toNat IntKind.u64.bits))]).data.toList = (ByteArray.mk #[(11 : UInt8), (0 : UInt8), (0 : UInt8), (4 : UInt8)]).data.toList) = true ∧
  (true && true) = true)) (True ∧ (2 : Nat) ≤ (140737488355328 : Nat) ∧ True ∧ SV.c (Value.int IntKind.i64 (2 : Int)) = SV.c (Value.int IntKind.i64 (2 : Int)) ∧
  ([!decide ((2 : Int) < (1 : Int))] = [!decide ((2 : Int) < (1 : Int))] ∧ True ∧ SV.c (Value.bool (decide ((8 : Int) < (2 : Int)))) = SV.c (Value.bool (decide ((8 : Int) < (2 : Int))))) ∧
  [!decide ((2 : Int) < (1 : Int))] = [!decide ((2 : Int) < (1 : Int))] ∧ True ∧ True ∧ True ∧ True ∧ (0 : Int) ≤ IntKind.i64.wrap ((8 : Int) * IntKind.i64.wrap (IntKind.i64.wrap ((2 : Int) - (1 : Int)) - (0 : Int))) ∧
  True ∧ (3 : Nat) ≤ (140737488355328 : Nat) ∧ True ∧ True ∧ True ∧ True ∧ True ∧ (0 : Int) ≤ IntKind.i64.wrap ((8 : Int) * IntKind.i64.wrap (IntKind.i64.wrap ((2 : Int) - (1 : Int)) - IntKind.i64.wrap ((0 : Int) + (1 : Int)))) ∧
  True ∧ (4 : Nat) ≤ (140737488355328 : Nat) ∧ True ∧ True ∧ ∀ (t_1 : Bool), (t_1 = true → (0 : Nat) = (0 : Nat)) → sw t_1 (True ∧ True ∧ ((0 : Int) ≤ bits BinOp.and IntKind.i64 (IntKind.i64.wrap ((0 : Int) - (↑(0 : Nat) : Int))) (3 : Int) ∧
  bits BinOp.and IntKind.i64 (IntKind.i64.wrap ((0 : Int) - (↑(0 : Nat) : Int))) (3 : Int) ≤ (9223372036854775807 : Int) ∧ (0 : Nat) ≤ (281474976710656 : Nat) ∧
  IntKind.u8 = IntKind.u8) ∧ (0 : Nat) ≤ (140737488355328 : Nat) ∧ True ∧ (4 : Nat) ≤ (140737488355328 : Nat) ∧ True ∧ True ∧ True ∧ True ∧ decide ((bstr [(11 : Int), (0 : Int), IntKind.u8.wrap ((IntKind.u64.wrap (IntKind.i64.wrap ((4 : Int) + (↑(0 : Nat) : Int)))).fdiv ((2 : Int) ^ min (IntKind.i64.wrap ((8 : Int) * IntKind.i64.wrap (IntKind.i64.wrap ((2 : Int) - (1 : Int)) - (0 : Int)))).toNat IntKind.u64.bits)), IntKind.u8.wrap ((IntKind.u64.wrap (IntKind.i64.wrap ((4 : Int) + (↑(0 : Nat) : Int)))).fdiv ((2 : Int) ^ min (IntKind.i64.wrap ((8 : Int) * IntKind.i64.wrap (IntKind.i64.wrap ((2 : Int) - (1 : Int)) - IntKind.i64.wrap ((0 : Int) + (1 : Int))))).toNat IntKind.u64.bits))]).data.toList = (ByteArray.mk #[(11 : UInt8), (0 : UInt8), (0 : UInt8), (4 : UInt8)]).data.toList) = true ∧
  (true && true) = true) (True ∧ (0 : Nat) ≤ (140737488355328 : Nat) ∧ True ∧ True ∧ ((0 : Int) ≤ bits BinOp.and IntKind.i64 (IntKind.i64.wrap ((0 : Int) - (↑(0 : Nat) : Int))) (3 : Int) ∧
  bits BinOp.and IntKind.i64 (IntKind.i64.wrap ((0 : Int) - (↑(0 : Nat) : Int))) (3 : Int) ≤ (9223372036854775807 : Int) ∧ (0 : Nat) ≤ (281474976710656 : Nat) ∧
  IntKind.u8 = IntKind.u8) ∧ (0 : Nat) ≤ (140737488355328 : Nat) ∧ True ∧ (4 : Nat) ≤ (140737488355328 : Nat) ∧ True ∧ True ∧ True ∧ True ∧ decide ((bstr [(11 : Int), (0 : Int), IntKind.u8.wrap ((IntKind.u64.wrap (IntKind.i64.wrap ((4 : Int) + (↑(0 : Nat) : Int)))).fdiv ((2 : Int) ^ min (IntKind.i64.wrap ((8 : Int) * IntKind.i64.wrap (IntKind.i64.wrap ((2 : Int) - (1 : Int)) - (0 : Int)))).toNat IntKind.u64.bits)), IntKind.u8.wrap ((IntKind.u64.wrap (IntKind.i64.wrap ((4 : Int) + (↑(0 : Nat) : Int)))).fdiv ((2 : Int) ^ min (IntKind.i64.wrap ((8 : Int) * IntKind.i64.wrap (IntKind.i64.wrap ((2 : Int) - (1 : Int)) - IntKind.i64.wrap ((0 : Int) + (1 : Int))))).toNat IntKind.u64.bits))]).data.toList = (ByteArray.mk #[(11 : UInt8), (0 : UInt8), (0 : UInt8), (4 : UInt8)]).data.toList) = true ∧
  (true && true) = true))) ∧ True) ∧ True) ∧ True) ∧ True := by
  simp only [Bool.forall_bool, sw_true, sw_false, true_and, and_true, implies_true, forall_const, false_implies, reduceCtorEq, Bool.false_eq_true]
  repeat' first | refine And.intro ?_ ?_ | decide +kernel
set_option maxRecDepth 100000 in
theorem ok17 : FnIs Try.prog 17 ansC := by
  refine fnIs (C := (ctrsJ Try.prog c0 i17 6)) (by kernel_rfl) (cokJ (by kernel_rfl) c0_ok i17_ok) Try.func17 (code := code17) (by kernel_rfl) (by kernel_rfl) ?_
  rintro a rfl
  exact ⟨anns [] [2], kcast (vc17) (by kernel_rfl)⟩

noncomputable def code68 : Code := match Try.f68.body with | some c => c | none => .skip
set_option maxHeartbeats 4000000 in
theorem vc68 : ∀ (l : List Int), sm l.length → ∃ (p : List Int), ∃ (g0 : Nat), (g0 ≤ p.length ∧ ∀ (j : Nat), j < g0 → ¬(0 : Int) < p.getD j (0 : Int)) ∧ (0 : Int) = (↑g0 : Int) ∧
  (true && true) = true ∧ ∀ (g : Nat), (g ≤ p.length ∧ ∀ (j : Nat), j < g → ¬(0 : Int) < p.getD j (0 : Int)) → True ∧ sw (decide ((↑g : Int) < (↑l.length : Int))) (((0 : Int) ≤ (↑g : Int) ∧
  (↑g : Int) < (↑l.length : Int)) ∧ True ∧ sw (decide ((0 : Int) < l.getD (↑g : Int).toNat (0 : Int))) (True ∧ decide ((0 : Int) ≤ (↑g : Int)) = someNZ (vl (D.ints IntKind.u8 l)) ∧
  (true && true) = true) (True ∧ ∃ (g' : Nat), (g' ≤ p.length ∧ ∀ (j : Nat), j < g' → ¬(0 : Int) < p.getD j (0 : Int)) ∧ p.length - g' < p.length - g ∧ (IntKind.i64.wrap ((↑g : Int) + (1 : Int)) = (↑g' : Int) ∧
  (true && true && true) = true) ∧ (some (SV.c (Value.int IntKind.i64 (↑l.length : Int))) = some (SV.c (Value.int IntKind.i64 (↑l.length : Int))) ∧ some (SV.a (0 : Nat)) = some (SV.a (0 : Nat)) ∧
  some (SV.a (0 : Nat)) = some (SV.a (0 : Nat)) ∧ some (SV.f (69 : Nat) (0 : Nat) []) = some (SV.f (69 : Nat) (0 : Nat) []) ∧ True) ∧ some (R.ro (D.ints IntKind.u8 l)) = some (R.ro (D.ints IntKind.u8 l)) ∧
  True)) (True ∧ decide ((0 : Int) ≤ (-1 : Int)) = someNZ (vl (D.ints IntKind.u8 l)) ∧ (true && true) = true) := by
  simp only [↓sw_iff, ↓Bool.and_eq_true, ↓decide_eq_true_eq, ↓decide_eq_false_iff_not, true_and, and_true, Int.toNat_natCast, vl]
  intro l h
  refine ⟨l, 0, ⟨Nat.zero_le _, fun j hj => absurd hj (Nat.not_lt_zero _)⟩, rfl, ?_⟩
  rintro g ⟨h1, h2⟩
  unfold sm at h
  refine ⟨fun t => ⟨⟨by omega, t⟩, fun hx => ?_, fun hx => ⟨g + 1, ⟨by omega, fun j hj => ?_⟩, by omega, by rw [wrap_i64_id (by omega) (by omega)]; rfl⟩⟩, fun t => ?_⟩
  · have : someNZ l = true := by
      rw [someNZ, List.any_eq_true]
      exact ⟨_, getD_mem (d := (0 : Int)) (by omega : g < l.length), by simpa using hx⟩
    rw [this]; simp
  · by_cases e : j = g
    · subst e; exact hx
    · exact h2 j (by omega)
  · have : someNZ l = false := by
      rw [someNZ, List.any_eq_false]
      intro x hx
      obtain ⟨j, hj, rfl⟩ := List.mem_iff_getElem.1 hx
      have := h2 j (by omega)
      simpa [List.getD, List.getElem?_eq_getElem hj] using this
    rw [this]; rfl
set_option maxRecDepth 100000 in
theorem ok68 : FnIs Try.prog 68 nzC := by
  refine fnIs (C := (ctrsJ Try.prog c0 i68 2)) (by kernel_rfl) (cokJ (by kernel_rfl) c0_ok i68_ok) Try.func68 (code := code68) (by kernel_rfl) (by kernel_rfl) ?_
  rintro a ⟨l, rfl, h⟩
  exact ⟨anns [], kcast (vc68 l h) (by kernel_rfl)⟩

theorem c7_ok : COk Try.prog (ctrs c7) := cok_cons ok65 (cok_cons ok67 (cok_cons ok57 (cok_cons ok68 (cok_cons ok54 cok_nil))))

noncomputable def code49 : Code := match Try.f49.body with | some c => c | none => .skip
set_option maxHeartbeats 4000000 in
theorem vc49 : ∀ (b : List Int), let y := partF (vl (D.ints IntKind.u8 b)) (vi (D.v (Value.int IntKind.i64 (2 : Int)))) (↑(vi (D.v (Value.int IntKind.i64 (2 : Int)))).toNat : Int);
  sm b.length → okB b → True ∧ sw (decide ((↑b.length : Int) < (4 : Int))) ((0 : Int) = (firstF (vl (D.ints IntKind.u8 b))).fst.t ∧ (0 : Int) = (firstF (vl (D.ints IntKind.u8 b))).fst.f ∧
  (firstF (vl (D.ints IntKind.u8 b))).fst.v = [] ∧ (0 : Int) = (↑(firstF (vl (D.ints IntKind.u8 b))).snd.fst : Int) ∧ (3 : Int) = (firstF (vl (D.ints IntKind.u8 b))).snd.snd ∧
  (true && true) = true) ((∃ (b_1 : List Int), ∃ (i : Int), ∃ (k : Nat), [O.d (D.ints IntKind.u8 b), O.d (D.v (Value.int IntKind.i64 (2 : Int))), O.d (D.v (Value.int IntKind.i64 (2 : Int)))] = [O.d (D.ints IntKind.u8 b_1), O.d (D.v (Value.int IntKind.i64 i)), O.d (D.v (Value.int IntKind.i64 (↑k : Int)))] ∧
  sm b_1.length ∧ okB b_1 ∧ okI i ∧ (1 : Nat) ≤ k ∧ k ≤ (8 : Nat)) ∧ True ∧ sw (decide (IntKind.i64.wrap (valF y.fst, y.snd).fst < (4 : Int))) ((0 : Int) = (firstF (vl (D.ints IntKind.u8 b))).fst.t ∧
  (0 : Int) = (firstF (vl (D.ints IntKind.u8 b))).fst.f ∧ (firstF (vl (D.ints IntKind.u8 b))).fst.v = [] ∧ (0 : Int) = (↑(firstF (vl (D.ints IntKind.u8 b))).snd.fst : Int) ∧
  (2 : Int) = (firstF (vl (D.ints IntKind.u8 b))).snd.snd ∧ (true && true) = true) ((∃ (n : Nat), [O.d (D.v (Value.int IntKind.i64 (IntKind.i64.wrap (valF y.fst, y.snd).fst)))] = [O.d (D.v (Value.int IntKind.i64 (↑n : Int)))] ∧
  n ≤ (2199023255552 : Nat)) ∧ True ∧ True ∧ (∃ (b_1 : List Int), ∃ (i : Int), ∃ (n : Int), [O.d (D.ints IntKind.u8 b), O.d (D.v (Value.int IntKind.i64 (IntKind.i64.wrap (valF y.fst, y.snd).fst))), O.d (D.v (Value.int IntKind.i64 (IntKind.i64.wrap (IntKind.i64.wrap (IntKind.i64.wrap (valF y.fst, y.snd).fst + (↑(padN (vi (D.v (Value.int IntKind.i64 (IntKind.i64.wrap (valF y.fst, y.snd).fst)))).toNat) : Int)) - IntKind.i64.wrap (valF y.fst, y.snd).fst))))] = [O.d (D.ints IntKind.u8 b_1), O.d (D.v (Value.int IntKind.i64 i)), O.d (D.v (Value.int IntKind.i64 n))] ∧
  sm b_1.length ∧ okI i ∧ okI n) ∧ True ∧ sw (!decide ((partF (vl (D.ints IntKind.u8 b)) (vi (D.v (Value.int IntKind.i64 (IntKind.i64.wrap (valF y.fst, y.snd).fst)))) (vi (D.v (Value.int IntKind.i64 (IntKind.i64.wrap (IntKind.i64.wrap (IntKind.i64.wrap (valF y.fst, y.snd).fst + (↑(padN (vi (D.v (Value.int IntKind.i64 (IntKind.i64.wrap (valF y.fst, y.snd).fst)))).toNat) : Int)) - IntKind.i64.wrap (valF y.fst, y.snd).fst)))))).snd = (0 : Int))) ((0 : Int) = (firstF (vl (D.ints IntKind.u8 b))).fst.t ∧
  (0 : Int) = (firstF (vl (D.ints IntKind.u8 b))).fst.f ∧ (firstF (vl (D.ints IntKind.u8 b))).fst.v = [] ∧ (0 : Int) = (↑(firstF (vl (D.ints IntKind.u8 b))).snd.fst : Int) ∧
  (partF (vl (D.ints IntKind.u8 b)) (vi (D.v (Value.int IntKind.i64 (IntKind.i64.wrap (valF y.fst, y.snd).fst)))) (vi (D.v (Value.int IntKind.i64 (IntKind.i64.wrap (IntKind.i64.wrap (IntKind.i64.wrap (valF y.fst, y.snd).fst + (↑(padN (vi (D.v (Value.int IntKind.i64 (IntKind.i64.wrap (valF y.fst, y.snd).fst)))).toNat) : Int)) - IntKind.i64.wrap (valF y.fst, y.snd).fst)))))).snd = (firstF (vl (D.ints IntKind.u8 b))).snd.snd ∧
  (true && true) = true) ((∃ (l : List Int), [O.d (D.ints IntKind.u8 (partF (vl (D.ints IntKind.u8 b)) (vi (D.v (Value.int IntKind.i64 (IntKind.i64.wrap (valF y.fst, y.snd).fst)))) (vi (D.v (Value.int IntKind.i64 (IntKind.i64.wrap (IntKind.i64.wrap (IntKind.i64.wrap (valF y.fst, y.snd).fst + (↑(padN (vi (D.v (Value.int IntKind.i64 (IntKind.i64.wrap (valF y.fst, y.snd).fst)))).toNat) : Int)) - IntKind.i64.wrap (valF y.fst, y.snd).fst)))))).fst), O.d (D.fn (69 : Nat) (0 : Nat) (0 : Nat) fun (i : Nat) => [].getD i (D.v undef))] = [O.d (D.ints IntKind.u8 l), O.d (D.fn (69 : Nat) (0 : Nat) (0 : Nat) fun (i : Nat) => [].getD i (D.v undef))] ∧
  sm l.length) ∧ sw (someNZ (vl (D.ints IntKind.u8 (partF (vl (D.ints IntKind.u8 b)) (vi (D.v (Value.int IntKind.i64 (IntKind.i64.wrap (valF y.fst, y.snd).fst)))) (vi (D.v (Value.int IntKind.i64 (IntKind.i64.wrap (IntKind.i64.wrap (IntKind.i64.wrap (valF y.fst, y.snd).fst + (↑(padN (vi (D.v (Value.int IntKind.i64 (IntKind.i64.wrap (valF y.fst, y.snd).fst)))).toNat) : Int)) - IntKind.i64.wrap (valF y.fst, y.snd).fst)))))).fst))) ((0 : Int) = (firstF (vl (D.ints IntKind.u8 b))).fst.t ∧
  (0 : Int) = (firstF (vl (D.ints IntKind.u8 b))).fst.f ∧ (firstF (vl (D.ints IntKind.u8 b))).fst.v = [] ∧ (0 : Int) = (↑(firstF (vl (D.ints IntKind.u8 b))).snd.fst : Int) ∧
  (2 : Int) = (firstF (vl (D.ints IntKind.u8 b))).snd.snd ∧ (true && true) = true) (((0 : Int) ≤ (0 : Int) ∧ (0 : Int) < (↑b.length : Int)) ∧ ((0 : Int) ≤ (1 : Int) ∧
  (1 : Int) < (↑b.length : Int)) ∧ ((0 : Int) ≤ (4 : Int) ∧ (4 : Int) ≤ IntKind.i64.wrap (valF y.fst, y.snd).fst ∧ IntKind.i64.wrap (valF y.fst, y.snd).fst ≤ (↑b.length : Int)) ∧
  ((∃ (l : List Int), [O.d (D.ints IntKind.u8 (List.take ((IntKind.i64.wrap (valF y.fst, y.snd).fst).toNat - Int.toNat (4 : Int)) (List.drop (Int.toNat (4 : Int)) b)))] = [O.d (D.ints IntKind.u8 l)] ∧
  sm l.length) ∧ (b.getD (Int.toNat (0 : Int)) (0 : Int) = (firstF (vl (D.ints IntKind.u8 b))).fst.t ∧ b.getD (Int.toNat (1 : Int)) (0 : Int) = (firstF (vl (D.ints IntKind.u8 b))).fst.f ∧
  vl (D.ints IntKind.u8 (List.take ((IntKind.i64.wrap (valF y.fst, y.snd).fst).toNat - Int.toNat (4 : Int)) (List.drop (Int.toNat (4 : Int)) b))) = (firstF (vl (D.ints IntKind.u8 b))).fst.v ∧
  IntKind.i64.wrap (IntKind.i64.wrap (valF y.fst, y.snd).fst + (↑(padN (vi (D.v (Value.int IntKind.i64 (IntKind.i64.wrap (valF y.fst, y.snd).fst)))).toNat) : Int)) = (↑(firstF (vl (D.ints IntKind.u8 b))).snd.fst : Int) ∧
  (0 : Int) = (firstF (vl (D.ints IntKind.u8 b))).snd.snd ∧ (!false && true && true) = true) ∧ True) ∧ True)))) := by
  simp only [↓sw_iff, ↓Bool.and_eq_true, ↓decide_eq_true_eq, ↓decide_eq_false_iff_not, ↓Bool.not_eq_true', ↓Bool.not_eq_false', true_and, and_true, vi, vl, toNat2, toNat4, toNat0, toNat1]
  intro b h hb
  have h' := h
  unfold sm at h'
  refine ⟨fun t => by rw [first_short (by omega)]; exact ⟨rfl, rfl, rfl, rfl, rfl⟩, fun t => ?_⟩
  have hp : partF b 2 ((2 : Nat) : Int) = ((b.drop 2).take 2, 0) := part_get (by omega) (by omega) (by omega) (by omega)
  obtain ⟨n0, n1⟩ := num_lt hb
  have hn : valF ((b.drop 2).take 2) = (numF b : Int) := by unfold numF; omega
  have hpl := padN_le (numF b)
  have hn1 : numF b < 65536 := by omega
  have h0 : ¬ b.length < 4 := by omega
  have e1 : IntKind.i64.wrap (numF b : Int) = (numF b : Int) := wrap_i64_id (by omega) (by omega)
  have e2 : IntKind.i64.wrap ((numF b : Int) + (padN (numF b) : Int)) = ((numF b + padN (numF b) : Nat) : Int) := by rw [wrap_i64_id (by omega) (by omega)]; omega
  have e3 : IntKind.i64.wrap (((numF b + padN (numF b) : Nat) : Int) - (numF b : Int)) = (padN (numF b) : Int) := by rw [wrap_i64_id (by omega) (by omega)]; omega
  rw [hp]
  simp only [hn, e1, Int.toNat_natCast, e2, e3]
  refine ⟨⟨b, 2, 2, rfl, h, hb, by unfold okI; omega, by omega, by omega⟩, fun t1 => by rw [first_form h0 (by omega)]; exact ⟨rfl, rfl, rfl, rfl, rfl⟩, fun t1 => ⟨⟨numF b, rfl, by omega⟩, ⟨b, _, _, rfl, h, by unfold okI; omega, by unfold okI; omega⟩, ?_, ?_⟩⟩
  · intro t2
    have h2 : b.length < numF b + padN (numF b) := by
      refine Nat.lt_of_not_le fun hle => t2 ?_
      rw [part_get (by omega) (by omega) (by omega) (by omega)]
    rw [first_short2 h0 (by omega) h2]
    have : (partF b (numF b : Int) (padN (numF b) : Int)).2 = 3 := by
      unfold partF; rw [if_neg (by omega), if_pos (by omega)]
    exact ⟨rfl, rfl, rfl, rfl, this⟩
  · intro t2
    have h2 : ¬ b.length < numF b + padN (numF b) := fun hlt => by
      unfold partF at t2
      rw [if_neg (by omega), if_pos (by omega)] at t2
      cases t2
    have hq : partF b (numF b : Int) (padN (numF b) : Int) = ((b.drop (numF b)).take (padN (numF b)), 0) := part_get (by omega) (by omega) (by omega) (by omega)
    rw [hq]
    have hl : ((b.drop (numF b)).take (padN (numF b))).length ≤ padN (numF b) := List.length_take_le _ _
    refine ⟨⟨_, rfl, by unfold sm; simp only; omega⟩, fun t3 => by rw [first_form2 h0 (by omega) h2 t3]; exact ⟨rfl, rfl, rfl, rfl, rfl⟩, fun t3 => ?_⟩
    rw [first_ok h0 (by omega) h2 t3]
    have hl2 : ((b.drop 4).take (numF b - 4)).length ≤ b.length := by rw [List.length_take, List.length_drop]; omega
    exact ⟨⟨by omega, by omega⟩, ⟨by omega, by omega⟩, ⟨by omega, by omega, by omega⟩, ⟨_, rfl, by unfold sm; omega⟩, rfl, rfl, rfl, rfl, rfl⟩
set_option maxRecDepth 100000 in
theorem ok49 : FnIs Try.prog 49 firstC := by
  refine fnIs (C := (ctrs c7)) (by kernel_rfl) c7_ok Try.func49 (code := code49) (by kernel_rfl) (by kernel_rfl) ?_
  rintro a ⟨b, rfl, h, hb⟩
  exact ⟨anns [], kcast (vc49 b h hb) (by kernel_rfl)⟩

theorem c8_ok : COk Try.prog (ctrs c8) := cok_cons ok49 cok_nil

noncomputable def code20 : Code := match Try.f20.body with | some c => c | none => .skip
set_option maxHeartbeats 4000000 in
theorem vc20 : ∀ (b : List Int), sm b.length → okB b → True ∧ sw (decide ((4096 : Int) < (↑b.length : Int))) ((getR (vl (D.ints IntKind.u8 b))).fst.length = (0 : Nat) ∧
  (4 : Int) = (getR (vl (D.ints IntKind.u8 b))).snd ∧ (true && true) = true) (∃ (g0 : List ChR × List Int), (g0.fst.length ≤ (32 : Nat) ∧ g0.snd.length ≤ (4096 : Nat) ∧
  okB g0.snd ∧ getG ((33 : Nat) - g0.fst.length) g0.fst g0.snd = getG (33 : Nat) [] b) ∧ g0.fst.length = (0 : Nat) ∧ b = g0.snd ∧ (true && true) = true ∧
  ∀ (g : List ChR × List Int), g.fst.length ≤ (32 : Nat) ∧ g.snd.length ≤ (4096 : Nat) ∧ okB g.snd ∧ getG ((33 : Nat) - g.fst.length) g.fst g.snd = getG (33 : Nat) [] b →
  True ∧ sw (decide ((0 : Int) < (↑g.snd.length : Int))) (True ∧ sw (decide ((32 : Int) ≤ (↑g.fst.length : Int))) ((getR (vl (D.ints IntKind.u8 b))).fst.length = (0 : Nat) ∧
  (4 : Int) = (getR (vl (D.ints IntKind.u8 b))).snd ∧ (true && true) = true) ((∃ (b_1 : List Int), [O.d (D.ints IntKind.u8 g.snd)] = [O.d (D.ints IntKind.u8 b_1)] ∧
  sm b_1.length ∧ okB b_1) ∧ True ∧ sw (!decide ((firstF (vl (D.ints IntKind.u8 g.snd))).snd.snd = (0 : Int))) ((getR (vl (D.ints IntKind.u8 b))).fst.length = (0 : Nat) ∧
  (firstF (vl (D.ints IntKind.u8 g.snd))).snd.snd = (getR (vl (D.ints IntKind.u8 b))).snd ∧ (true && true) = true) (True ∧ (g.fst.length + (1 : Nat)) * Try.prog.types[(45 : Nat)].bytes ≤ (140737488355328 : Nat) ∧
  ((0 : Int) ≤ (↑(firstF (vl (D.ints IntKind.u8 g.snd))).snd.fst : Int) ∧ (↑(firstF (vl (D.ints IntKind.u8 g.snd))).snd.fst : Int) ≤ (↑g.snd.length : Int)) ∧
  ∃ (g' : List ChR × List Int), (g'.fst.length ≤ (32 : Nat) ∧ g'.snd.length ≤ (4096 : Nat) ∧ okB g'.snd ∧ getG ((33 : Nat) - g'.fst.length) g'.fst g'.snd = getG (33 : Nat) [] b) ∧
  (33 : Nat) - g'.fst.length < (33 : Nat) - g.fst.length ∧ ((g.fst.length + (1 : Nat) = g'.fst.length ∧ ∀ (i : Nat), i < g.fst.length + (1 : Nat) → ∀ (j : Nat), j < (3 : Nat) →
  (bif i.blt g.fst.length then chCell g.fst i j else [D.v (Value.int IntKind.u8 (firstF (vl (D.ints IntKind.u8 g.snd))).fst.t), D.v (Value.int IntKind.u8 (firstF (vl (D.ints IntKind.u8 g.snd))).fst.f), D.ints IntKind.u8 (firstF (vl (D.ints IntKind.u8 g.snd))).fst.v].getD ((i - g.fst.length) * Try.prog.types[(45 : Nat)].size + j) (D.v undef)) = chCell g'.fst i j) ∧
  List.drop (↑(firstF (vl (D.ints IntKind.u8 g.snd))).snd.fst : Int).toNat g.snd = g'.snd ∧ (!false && true && true && ((Nat.ble (1 : Nat) (6 : Nat) || false) && true)) = true) ∧
  (some (SV.c (Value.bool (decide ((4096 : Int) < (↑b.length : Int))))) = some (SV.c (Value.bool (decide ((4096 : Int) < (↑b.length : Int))))) ∧ some (SV.c (Value.int IntKind.i64 (↑b.length : Int))) = some (SV.c (Value.int IntKind.i64 (↑b.length : Int))) ∧
  some (SV.a (0 : Nat)) = some (SV.a (0 : Nat)) ∧ True) ∧ some (R.ro (D.ints IntKind.u8 b)) = some (R.ro (D.ints IntKind.u8 b)) ∧ True))) ((g.fst.length = (getR (vl (D.ints IntKind.u8 b))).fst.length ∧
  ∀ (i : Nat), i < g.fst.length → ∀ (j : Nat), j < (3 : Nat) → chCell g.fst i j = chCell (getR (vl (D.ints IntKind.u8 b))).fst i j) ∧ (0 : Int) = (getR (vl (D.ints IntKind.u8 b))).snd ∧
  (!false && true && true) = true)) := by
  simp only [↓sw_iff, ↓Bool.and_eq_true, ↓decide_eq_true_eq, ↓decide_eq_false_iff_not, ↓Bool.not_eq_true', ↓Bool.not_eq_false', true_and, and_true, Bool.or_false, Nat.ble, Int.toNat_natCast, vl, bytes45, size45]
  intro b h hb
  unfold sm at h
  refine ⟨fun t => by rw [getR_big (by omega)]; exact ⟨rfl, rfl⟩, fun t => ⟨([], b), ⟨Nat.zero_le _, by simp only; omega, hb, rfl⟩, rfl, rfl, ?_⟩⟩
  rw [getR_eq (by omega)]
  rintro ⟨l, r⟩ ⟨g1, g2, g3, g4⟩
  simp only at g1 g2 g3 g4 ⊢
  rw [← g4]
  have hf : 33 - l.length = 32 - l.length + 1 := by omega
  refine ⟨fun hlt => ⟨fun hful => ?_, fun hful => ⟨⟨r, rfl, by unfold sm; omega, g3⟩, fun he => ?_, fun he => ?_⟩⟩, fun hge => ?_⟩
  · rw [hf, getG_full (by omega) (by omega)]; exact ⟨rfl, rfl⟩
  · rw [hf, getG_err (by omega) (by omega) he]; exact ⟨rfl, rfl⟩
  · obtain ⟨a1, a2⟩ := first_all he
    refine ⟨by omega, ⟨by omega, by omega⟩, (l ++ [(firstF r).1], r.drop (firstF r).2.1), ⟨?_, ?_, okB_drop g3 _, ?_⟩, ?_, ⟨?_, ?_⟩, rfl⟩
    · simp only [List.length_append, List.length_singleton]; omega
    · simp only [List.length_drop]; omega
    · rw [hf, getG_step (by omega) (by omega) he]
      simp only [List.length_append, List.length_singleton]
      congr 1; omega
    · simp only [List.length_append, List.length_singleton]; omega
    · simp
    · intro i hi j hj
      exact app_ch _ _ hi hj
  · have : r = [] := List.length_eq_zero_iff.1 (by omega)
    subst this
    rw [hf, getG_nil]
    exact ⟨⟨rfl, fun _ _ _ _ => rfl⟩, rfl⟩
set_option maxRecDepth 100000 in
theorem ok20 : FnIs Try.prog 20 getsC := by
  refine fnIs (C := (ctrs c8)) (by kernel_rfl) c8_ok Try.func20 (code := code20) (by kernel_rfl) (by kernel_rfl) ?_
  rintro a ⟨b, rfl, h, hb⟩
  exact ⟨anns [(4, getAnn b)], kcast (vc20 b h hb) (by kernel_rfl)⟩

noncomputable def code25 : Code := match Try.f25.body with | some c => c | none => .skip
set_option maxHeartbeats 4000000 in
theorem vc25 : ∀ (c d : ChR), True ∧ sw (decide (c.t = d.t)) (SV.p (2 : Nat) (1 : Nat) = SV.p (2 : Nat) (1 : Nat)) True ∧ sw (decide (c.t = d.t)) ([decide (c.t = d.t)] = [decide (c.t = d.t)] ∧
  SV.c (Value.int IntKind.u8 c.f) = SV.c (Value.int IntKind.u8 c.f)) True ∧ sw (decide (c.t = d.t)) (SV.p (3 : Nat) (1 : Nat) = SV.p (3 : Nat) (1 : Nat)) True ∧
  sw (decide (c.t = d.t)) ([decide (c.t = d.t)] = [decide (c.t = d.t)] ∧ SV.c (Value.int IntKind.u8 d.f) = SV.c (Value.int IntKind.u8 d.f)) True ∧ sw (decide (c.t = d.t)) ([decide (c.t = d.t)] = [decide (c.t = d.t)] ∧
  [decide (c.t = d.t)] = [decide (c.t = d.t)] ∧ True ∧ SV.c (Value.bool (decide (c.f = d.f))) = SV.c (Value.bool (decide (c.f = d.f)))) True ∧ [decide (c.t = d.t)] = [decide (c.t = d.t)] ∧
  sw (decide (c.t = d.t) && decide (c.f = d.f)) (SV.p (2 : Nat) (2 : Nat) = SV.p (2 : Nat) (2 : Nat)) True ∧ sw (decide (c.t = d.t) && decide (c.f = d.f)) ([decide (c.t = d.t) && decide (c.f = d.f)] = [decide (c.t = d.t) && decide (c.f = d.f)] ∧
  SV.a (0 : Nat) = SV.a (0 : Nat)) True ∧ sw (decide (c.t = d.t) && decide (c.f = d.f)) ([decide (c.t = d.t) && decide (c.f = d.f)] = [decide (c.t = d.t) && decide (c.f = d.f)] ∧
  SV.c (Value.string (bstr c.v)) = SV.c (Value.string (bstr c.v))) True ∧ sw (decide (c.t = d.t) && decide (c.f = d.f)) (SV.p (3 : Nat) (2 : Nat) = SV.p (3 : Nat) (2 : Nat)) True ∧
  sw (decide (c.t = d.t) && decide (c.f = d.f)) ([decide (c.t = d.t) && decide (c.f = d.f)] = [decide (c.t = d.t) && decide (c.f = d.f)] ∧ SV.a (1 : Nat) = SV.a (1 : Nat)) True ∧
  sw (decide (c.t = d.t) && decide (c.f = d.f)) ([decide (c.t = d.t) && decide (c.f = d.f)] = [decide (c.t = d.t) && decide (c.f = d.f)] ∧ SV.c (Value.string (bstr d.v)) = SV.c (Value.string (bstr d.v))) True ∧
  sw (decide (c.t = d.t) && decide (c.f = d.f)) ([decide (c.t = d.t) && decide (c.f = d.f)] = [decide (c.t = d.t) && decide (c.f = d.f)] ∧ [decide (c.t = d.t) && decide (c.f = d.f)] = [decide (c.t = d.t) && decide (c.f = d.f)] ∧
  True ∧ SV.c (Value.bool (decide ((bstr c.v).data.toList = (bstr d.v).data.toList))) = SV.c (Value.bool (decide ((bstr c.v).data.toList = (bstr d.v).data.toList)))) True ∧
  [decide (c.t = d.t) && decide (c.f = d.f)] = [decide (c.t = d.t) && decide (c.f = d.f)] ∧ (decide (c.t = d.t) && decide (c.f = d.f) && decide ((bstr c.v).data.toList = (bstr d.v).data.toList)) = sameCh (ChR.mk (vi (D.v (Value.int IntKind.u8 c.t))) (vi (D.v (Value.int IntKind.u8 c.f))) (vl (D.ints IntKind.u8 c.v))) (ChR.mk (vi (D.v (Value.int IntKind.u8 d.t))) (vi (D.v (Value.int IntKind.u8 d.f))) (vl (D.ints IntKind.u8 d.v))) ∧
  (true && true) = true := by
  simp only [↓sw_iff, ↓Bool.and_eq_true, ↓Bool.and_eq_false_iff, ↓decide_eq_true_eq, ↓decide_eq_false_iff_not, true_and, and_true, implies_true, vi, vl, bytes_dec]
  intro c d
  rfl
set_option maxRecDepth 100000 in
theorem ok25 : FnIs Try.prog 25 sameC := by
  refine fnIs (C := (ctrs c0)) (by kernel_rfl) c0_ok Try.func25 (code := code25) (by kernel_rfl) (by kernel_rfl) ?_
  rintro a ⟨c, d, rfl⟩
  exact ⟨anns [], kcast (vc25 c d) (by kernel_rfl)⟩

theorem c10_ok : COk Try.prog (ctrs c10) := cok_cons ok25 cok_nil
theorem c9_ok : COk Try.prog (ctrs c9) := cok_cons ok50 (cok_cons ok51 cok_nil)

noncomputable def code21 : Code := match Try.f21.body with | some c => c | none => .skip
set_option maxHeartbeats 4000000 in
theorem vc21 : ∀ (b : List Int), sm b.length → okB b → True ∧ sw (decide ((4096 : Int) < (↑b.length : Int))) ((getR (vl (D.ints IntKind.u8 b))).fst.length = (0 : Nat) ∧
  (4 : Int) = (getR (vl (D.ints IntKind.u8 b))).snd ∧ (true && true) = true) (∃ (g0 : List ChR × Nat), (g0.fst.length ≤ (32 : Nat) ∧ g0.snd ≤ b.length ∧ getG ((33 : Nat) - g0.fst.length) g0.fst (List.drop g0.snd b) = getG (33 : Nat) [] b) ∧
  g0.fst.length = (0 : Nat) ∧ (0 : Int) = (↑g0.snd : Int) ∧ (true && true) = true ∧ ∀ (g : List ChR × Nat), let y := vi (D.v (Value.int IntKind.i64 (IntKind.i64.wrap ((↑g.snd : Int) + (2 : Int)))));
  let y_1 := partF (vl (D.ints IntKind.u8 b)) y (↑(vi (D.v (Value.int IntKind.i64 (2 : Int)))).toNat : Int); g.fst.length ≤ (32 : Nat) ∧ g.snd ≤ b.length ∧
  getG ((33 : Nat) - g.fst.length) g.fst (List.drop g.snd b) = getG (33 : Nat) [] b → True ∧ sw (decide ((↑g.snd : Int) < (↑b.length : Int))) (True ∧ sw (decide ((32 : Int) ≤ (↑g.fst.length : Int))) ((getR (vl (D.ints IntKind.u8 b))).fst.length = (0 : Nat) ∧
  (4 : Int) = (getR (vl (D.ints IntKind.u8 b))).snd ∧ (true && true) = true) (True ∧ True ∧ sw (decide (IntKind.i64.wrap ((↑b.length : Int) - (↑g.snd : Int)) < (4 : Int))) ((getR (vl (D.ints IntKind.u8 b))).fst.length = (0 : Nat) ∧
  (3 : Int) = (getR (vl (D.ints IntKind.u8 b))).snd ∧ (true && true) = true) (True ∧ (∃ (b_1 : List Int), ∃ (i : Int), ∃ (k : Nat), [O.d (D.ints IntKind.u8 b), O.d (D.v (Value.int IntKind.i64 (IntKind.i64.wrap ((↑g.snd : Int) + (2 : Int))))), O.d (D.v (Value.int IntKind.i64 (2 : Int)))] = [O.d (D.ints IntKind.u8 b_1), O.d (D.v (Value.int IntKind.i64 i)), O.d (D.v (Value.int IntKind.i64 (↑k : Int)))] ∧
  sm b_1.length ∧ okB b_1 ∧ okI i ∧ (1 : Nat) ≤ k ∧ k ≤ (7 : Nat)) ∧ True ∧ sw (decide ((valF y_1.fst, y_1.snd).fst < (4 : Int))) ((getR (vl (D.ints IntKind.u8 b))).fst.length = (0 : Nat) ∧
  (2 : Int) = (getR (vl (D.ints IntKind.u8 b))).snd ∧ (true && true) = true) (True ∧ (∃ (n : Nat), [O.d (D.v (Value.int IntKind.i64 (valF y_1.fst, y_1.snd).fst))] = [O.d (D.v (Value.int IntKind.i64 (↑n : Int)))] ∧
  n ≤ (2199023255552 : Nat)) ∧ True ∧ True ∧ sw (decide ((↑b.length : Int) < IntKind.i64.wrap (IntKind.i64.wrap ((↑g.snd : Int) + (valF y_1.fst, y_1.snd).fst) + (↑(padN (vi (D.v (Value.int IntKind.i64 (valF y_1.fst, y_1.snd).fst))).toNat) : Int)))) ((getR (vl (D.ints IntKind.u8 b))).fst.length = (0 : Nat) ∧
  (3 : Int) = (getR (vl (D.ints IntKind.u8 b))).snd ∧ (true && true) = true) (True ∧ ∃ (p : Nat × Nat), ∃ (g0_1 : Nat), (p.fst ≤ g0_1 ∧ g0_1 ≤ p.snd ∧ ∀ (j : Nat), p.fst ≤ j →
  j < g0_1 → b.getD j (0 : Int) = (0 : Int)) ∧ IntKind.i64.wrap ((↑g.snd : Int) + (valF y_1.fst, y_1.snd).fst) = (↑g0_1 : Int) ∧ (true && true) = true ∧ ∀ (g_1 : Nat), (p.fst ≤ g_1 ∧
  g_1 ≤ p.snd ∧ ∀ (j : Nat), p.fst ≤ j → j < g_1 → b.getD j (0 : Int) = (0 : Int)) → True ∧ sw (decide ((↑g_1 : Int) < IntKind.i64.wrap (IntKind.i64.wrap ((↑g.snd : Int) + (valF y_1.fst, y_1.snd).fst) + (↑(padN (vi (D.v (Value.int IntKind.i64 (valF y_1.fst, y_1.snd).fst))).toNat) : Int)))) (((0 : Int) ≤ (↑g_1 : Int) ∧
  (↑g_1 : Int) < (↑b.length : Int)) ∧ True ∧ sw (!decide (b.getD (↑g_1 : Int).toNat (0 : Int) = (0 : Int))) ((getR (vl (D.ints IntKind.u8 b))).fst.length = (0 : Nat) ∧
  (2 : Int) = (getR (vl (D.ints IntKind.u8 b))).snd ∧ (true && true) = true) (True ∧ ∃ (g' : Nat), (p.fst ≤ g' ∧ g' ≤ p.snd ∧ ∀ (j : Nat), p.fst ≤ j → j < g' →
  b.getD j (0 : Int) = (0 : Int)) ∧ p.snd - g' < p.snd - g_1 ∧ (IntKind.i64.wrap ((↑g_1 : Int) + (1 : Int)) = (↑g' : Int) ∧ (true && true && true) = true) ∧
  (some (SV.c (Value.int IntKind.i64 (IntKind.i64.wrap ((↑g.snd : Int) + (valF y_1.fst, y_1.snd).fst)))) = some (SV.c (Value.int IntKind.i64 (IntKind.i64.wrap ((↑g.snd : Int) + (valF y_1.fst, y_1.snd).fst)))) ∧
  some (SV.c (Value.int IntKind.i64 (valF y_1.fst, y_1.snd).fst)) = some (SV.c (Value.int IntKind.i64 (valF y_1.fst, y_1.snd).fst)) ∧ some (SV.c (Value.int IntKind.i64 (↑g.snd : Int))) = some (SV.c (Value.int IntKind.i64 (↑g.snd : Int))) ∧
  some (SV.c (Value.bool (decide ((↑b.length : Int) < IntKind.i64.wrap (IntKind.i64.wrap ((↑g.snd : Int) + (valF y_1.fst, y_1.snd).fst) + (↑(padN (vi (D.v (Value.int IntKind.i64 (valF y_1.fst, y_1.snd).fst))).toNat) : Int)))))) = some (SV.c (Value.bool (decide ((↑b.length : Int) < IntKind.i64.wrap (IntKind.i64.wrap ((↑g.snd : Int) + (valF y_1.fst, y_1.snd).fst) + (↑(padN (vi (D.v (Value.int IntKind.i64 (valF y_1.fst, y_1.snd).fst))).toNat) : Int)))))) ∧
  some (SV.c (Value.int IntKind.i64 (↑b.length : Int))) = some (SV.c (Value.int IntKind.i64 (↑b.length : Int))) ∧ some (SV.a (0 : Nat)) = some (SV.a (0 : Nat)) ∧
  some (SV.c (Value.int IntKind.i64 (IntKind.i64.wrap (IntKind.i64.wrap ((↑g.snd : Int) + (valF y_1.fst, y_1.snd).fst) + (↑(padN (vi (D.v (Value.int IntKind.i64 (valF y_1.fst, y_1.snd).fst))).toNat) : Int))))) = some (SV.c (Value.int IntKind.i64 (IntKind.i64.wrap (IntKind.i64.wrap ((↑g.snd : Int) + (valF y_1.fst, y_1.snd).fst) + (↑(padN (vi (D.v (Value.int IntKind.i64 (valF y_1.fst, y_1.snd).fst))).toNat) : Int))))) ∧
  some (SV.c (Value.int IntKind.i64 (IntKind.i64.wrap (IntKind.i64.wrap ((↑g.snd : Int) + (valF y_1.fst, y_1.snd).fst) + (↑(padN (vi (D.v (Value.int IntKind.i64 (valF y_1.fst, y_1.snd).fst))).toNat) : Int))))) = some (SV.c (Value.int IntKind.i64 (IntKind.i64.wrap (IntKind.i64.wrap ((↑g.snd : Int) + (valF y_1.fst, y_1.snd).fst) + (↑(padN (vi (D.v (Value.int IntKind.i64 (valF y_1.fst, y_1.snd).fst))).toNat) : Int))))) ∧
  some (SV.c (Value.int IntKind.i64 (IntKind.i64.wrap (IntKind.i64.wrap ((↑g.snd : Int) + (valF y_1.fst, y_1.snd).fst) + (↑(padN (vi (D.v (Value.int IntKind.i64 (valF y_1.fst, y_1.snd).fst))).toNat) : Int))))) = some (SV.c (Value.int IntKind.i64 (IntKind.i64.wrap (IntKind.i64.wrap ((↑g.snd : Int) + (valF y_1.fst, y_1.snd).fst) + (↑(padN (vi (D.v (Value.int IntKind.i64 (valF y_1.fst, y_1.snd).fst))).toNat) : Int))))) ∧
  some (SV.c (Value.int IntKind.i64 (↑(padN (vi (D.v (Value.int IntKind.i64 (valF y_1.fst, y_1.snd).fst))).toNat) : Int))) = some (SV.c (Value.int IntKind.i64 (↑(padN (vi (D.v (Value.int IntKind.i64 (valF y_1.fst, y_1.snd).fst))).toNat) : Int))) ∧
  some (SV.c (Value.int IntKind.i64 (valF y_1.fst, y_1.snd).fst)) = some (SV.c (Value.int IntKind.i64 (valF y_1.fst, y_1.snd).fst)) ∧ some (SV.c (Value.int IntKind.i64 (IntKind.i64.wrap ((↑g.snd : Int) + (valF y_1.fst, y_1.snd).fst)))) = some (SV.c (Value.int IntKind.i64 (IntKind.i64.wrap ((↑g.snd : Int) + (valF y_1.fst, y_1.snd).fst)))) ∧
  some (SV.c (Value.int IntKind.i64 (valF y_1.fst, y_1.snd).fst)) = some (SV.c (Value.int IntKind.i64 (valF y_1.fst, y_1.snd).fst)) ∧ some (SV.c (Value.int IntKind.i64 (↑g.snd : Int))) = some (SV.c (Value.int IntKind.i64 (↑g.snd : Int))) ∧
  some (SV.c (Value.bool (decide ((valF y_1.fst, y_1.snd).fst < (4 : Int))))) = some (SV.c (Value.bool (decide ((valF y_1.fst, y_1.snd).fst < (4 : Int))))) ∧
  some (SV.c (Value.int IntKind.i64 (valF y_1.fst, y_1.snd).fst)) = some (SV.c (Value.int IntKind.i64 (valF y_1.fst, y_1.snd).fst)) ∧ some (SV.c (Value.int IntKind.i64 (valF y_1.fst, y_1.snd).fst)) = some (SV.c (Value.int IntKind.i64 (valF y_1.fst, y_1.snd).fst)) ∧
  some (SV.c (Value.int IntKind.i64 (valF y_1.fst, y_1.snd).fst)) = some (SV.c (Value.int IntKind.i64 (valF y_1.fst, y_1.snd).fst)) ∧ some (SV.c (Value.int IntKind.i64 (IntKind.i64.wrap ((↑g.snd : Int) + (2 : Int))))) = some (SV.c (Value.int IntKind.i64 (IntKind.i64.wrap ((↑g.snd : Int) + (2 : Int))))) ∧
  some (SV.c (Value.int IntKind.i64 (↑g.snd : Int))) = some (SV.c (Value.int IntKind.i64 (↑g.snd : Int))) ∧ some (SV.a (0 : Nat)) = some (SV.a (0 : Nat)) ∧
  some (SV.c (Value.bool (decide (IntKind.i64.wrap ((↑b.length : Int) - (↑g.snd : Int)) < (4 : Int))))) = some (SV.c (Value.bool (decide (IntKind.i64.wrap ((↑b.length : Int) - (↑g.snd : Int)) < (4 : Int))))) ∧
  some (SV.c (Value.int IntKind.i64 (IntKind.i64.wrap ((↑b.length : Int) - (↑g.snd : Int))))) = some (SV.c (Value.int IntKind.i64 (IntKind.i64.wrap ((↑b.length : Int) - (↑g.snd : Int))))) ∧
  some (SV.c (Value.int IntKind.i64 (↑g.snd : Int))) = some (SV.c (Value.int IntKind.i64 (↑g.snd : Int))) ∧ some (SV.c (Value.int IntKind.i64 (↑b.length : Int))) = some (SV.c (Value.int IntKind.i64 (↑b.length : Int))) ∧
  some (SV.a (0 : Nat)) = some (SV.a (0 : Nat)) ∧ some (SV.c (Value.bool (decide ((32 : Int) ≤ (↑g.fst.length : Int))))) = some (SV.c (Value.bool (decide ((32 : Int) ≤ (↑g.fst.length : Int))))) ∧
  some (SV.c (Value.int IntKind.i64 (↑g.fst.length : Int))) = some (SV.c (Value.int IntKind.i64 (↑g.fst.length : Int))) ∧ some (SV.a (1 : Nat)) = some (SV.a (1 : Nat)) ∧
  some (SV.c (Value.bool (decide ((↑g.snd : Int) < (↑b.length : Int))))) = some (SV.c (Value.bool (decide ((↑g.snd : Int) < (↑b.length : Int))))) ∧ some (SV.c (Value.int IntKind.i64 (↑b.length : Int))) = some (SV.c (Value.int IntKind.i64 (↑b.length : Int))) ∧
  some (SV.a (0 : Nat)) = some (SV.a (0 : Nat)) ∧ some (SV.c (Value.int IntKind.i64 (↑g.snd : Int))) = some (SV.c (Value.int IntKind.i64 (↑g.snd : Int))) ∧
  some (SV.a (1 : Nat)) = some (SV.a (1 : Nat)) ∧ some (SV.c (Value.int IntKind.i64 (↑g.snd : Int))) = some (SV.c (Value.int IntKind.i64 (↑g.snd : Int))) ∧
  some (SV.c (Value.bool (decide ((4096 : Int) < (↑b.length : Int))))) = some (SV.c (Value.bool (decide ((4096 : Int) < (↑b.length : Int))))) ∧ some (SV.c (Value.int IntKind.i64 (↑b.length : Int))) = some (SV.c (Value.int IntKind.i64 (↑b.length : Int))) ∧
  some (SV.a (0 : Nat)) = some (SV.a (0 : Nat)) ∧ some (SV.a (0 : Nat)) = some (SV.a (0 : Nat)) ∧ True) ∧ some (R.own (45 : Nat) (D.recs (3 : Nat) g.fst.length (chCell g.fst))) = some (R.own (45 : Nat) (D.recs (3 : Nat) g.fst.length (chCell g.fst))) ∧
  some (R.ro (D.ints IntKind.u8 b)) = some (R.ro (D.ints IntKind.u8 b)) ∧ True)) (((0 : Int) ≤ (↑g.snd : Int) ∧ (↑g.snd : Int) < (↑b.length : Int)) ∧ True ∧
  ((0 : Int) ≤ IntKind.i64.wrap ((↑g.snd : Int) + (1 : Int)) ∧ IntKind.i64.wrap ((↑g.snd : Int) + (1 : Int)) < (↑b.length : Int)) ∧ True ∧ True ∧ ((0 : Int) ≤ IntKind.i64.wrap ((↑g.snd : Int) + (4 : Int)) ∧
  IntKind.i64.wrap ((↑g.snd : Int) + (4 : Int)) ≤ IntKind.i64.wrap ((↑g.snd : Int) + (valF y_1.fst, y_1.snd).fst) ∧ IntKind.i64.wrap ((↑g.snd : Int) + (valF y_1.fst, y_1.snd).fst) ≤ (↑b.length : Int)) ∧
  ((True ∧ ((0 : Nat) + (List.take ((IntKind.i64.wrap ((↑g.snd : Int) + (valF y_1.fst, y_1.snd).fst)).toNat - (IntKind.i64.wrap ((↑g.snd : Int) + (4 : Int))).toNat) (List.drop (IntKind.i64.wrap ((↑g.snd : Int) + (4 : Int))).toNat b)).length) * Try.prog.types[(5 : Nat)].bytes ≤ (140737488355328 : Nat) ∧
  ((True ∧ (g.fst.length + (1 : Nat)) * Try.prog.types[(45 : Nat)].bytes ≤ (140737488355328 : Nat) ∧ ∃ (g' : List ChR × Nat), (g'.fst.length ≤ (32 : Nat) ∧
  g'.snd ≤ b.length ∧ getG ((33 : Nat) - g'.fst.length) g'.fst (List.drop g'.snd b) = getG (33 : Nat) [] b) ∧ (33 : Nat) - g'.fst.length < (33 : Nat) - g.fst.length ∧
  ((g.fst.length + (1 : Nat) = g'.fst.length ∧ ∀ (i : Nat), i < g.fst.length + (1 : Nat) → ∀ (j : Nat), j < (3 : Nat) → (bif i.blt g.fst.length then chCell g.fst i j else [D.v (Value.int IntKind.u8 (b.getD (↑g.snd : Int).toNat (0 : Int))), D.v (Value.int IntKind.u8 (b.getD (IntKind.i64.wrap ((↑g.snd : Int) + (1 : Int))).toNat (0 : Int))), D.ints IntKind.u8 ([] ++ List.take ((IntKind.i64.wrap ((↑g.snd : Int) + (valF y_1.fst, y_1.snd).fst)).toNat - (IntKind.i64.wrap ((↑g.snd : Int) + (4 : Int))).toNat) (List.drop (IntKind.i64.wrap ((↑g.snd : Int) + (4 : Int))).toNat b))].getD ((i - g.fst.length) * Try.prog.types[(45 : Nat)].size + j) (D.v undef)) = chCell g'.fst i j) ∧
  IntKind.i64.wrap (IntKind.i64.wrap ((↑g.snd : Int) + (valF y_1.fst, y_1.snd).fst) + (↑(padN (vi (D.v (Value.int IntKind.i64 (valF y_1.fst, y_1.snd).fst))).toNat) : Int)) = (↑g'.snd : Int) ∧
  (!false && true && true && ((Nat.ble (1 : Nat) (6 : Nat) || false) && true)) = true) ∧ (some (SV.c (Value.bool (decide ((4096 : Int) < (↑b.length : Int))))) = some (SV.c (Value.bool (decide ((4096 : Int) < (↑b.length : Int))))) ∧
  some (SV.c (Value.int IntKind.i64 (↑b.length : Int))) = some (SV.c (Value.int IntKind.i64 (↑b.length : Int))) ∧ some (SV.a (0 : Nat)) = some (SV.a (0 : Nat)) ∧
  some (SV.a (0 : Nat)) = some (SV.a (0 : Nat)) ∧ True) ∧ some (R.ro (D.ints IntKind.u8 b)) = some (R.ro (D.ints IntKind.u8 b)) ∧ True) ∧ True) ∧ True) ∧
  True) ∧ True)))))) ((g.fst.length = (getR (vl (D.ints IntKind.u8 b))).fst.length ∧ ∀ (i : Nat), i < g.fst.length → ∀ (j : Nat), j < (3 : Nat) → chCell g.fst i j = chCell (getR (vl (D.ints IntKind.u8 b))).fst i j) ∧
  (0 : Int) = (getR (vl (D.ints IntKind.u8 b))).snd ∧ (!false && true && true) = true)) := by
  simp only [↓sw_iff, ↓Bool.and_eq_true, ↓decide_eq_true_eq, ↓decide_eq_false_iff_not, ↓Bool.not_eq_true', ↓Bool.not_eq_false', true_and, and_true, Bool.or_false, Nat.ble, Int.toNat_natCast, vi, vl, Nat.zero_add, List.nil_append, Nat.mul_one, bytes5, bytes45, size45, toNat2]
  intro b h hb
  have h' := h
  unfold sm at h'
  refine ⟨fun t => by rw [getR_big (by omega)]; exact ⟨rfl, rfl⟩, fun t => ⟨([], 0), ⟨Nat.zero_le _, Nat.zero_le _, rfl⟩, rfl, rfl, ?_⟩⟩
  rw [getR_eq (by omega)]
  rintro ⟨l, p⟩ ⟨g1, g2, g4⟩
  simp only at g1 g2 g4 ⊢
  rw [← g4]
  have hf : 33 - l.length = 32 - l.length + 1 := by omega
  have hrl : (b.drop p).length = b.length - p := List.length_drop
  have hr : okB (b.drop p) := okB_drop hb p
  have e0 : IntKind.i64.wrap ((b.length : Int) - (p : Int)) = (b.length : Int) - p := wrap_i64_id (by omega) (by omega)
  have e1 : IntKind.i64.wrap ((p : Int) + 2) = ((p + 2 : Nat) : Int) := by rw [wrap_i64_id (by omega) (by omega)]; rfl
  rw [e0, e1]
  refine ⟨fun hlt => ⟨fun hful => ?_, fun hful => ?_⟩, fun hge => ?_⟩
  · rw [hf, getG_full (by omega) (by omega)]; exact ⟨rfl, rfl⟩
  · rw [hf]
    have err : ∀ {e : Int}, (firstF (b.drop p)).2.2 = e → ¬ e = 0 → (getG (32 - l.length + 1) l (b.drop p)).1.length = 0 ∧ e = (getG (32 - l.length + 1) l (b.drop p)).2 := fun he h0 => by
      rw [getG_err (by omega) (by omega) (by rw [he]; exact h0)]; exact ⟨rfl, he.symm⟩
    refine ⟨fun ht => err (by rw [first_short (by omega)]) (by decide), fun ht => ?_⟩
    have h4 : ¬ (b.drop p).length < 4 := by omega
    have hp : partF b ((p + 2 : Nat) : Int) ((2 : Nat) : Int) = ((b.drop (p + 2)).take 2, 0) := part_get (by omega) (by omega) (by omega) (by omega)
    obtain ⟨n0, n1⟩ := num_lt hr
    have hn : valF ((b.drop (p + 2)).take 2) = (numF (b.drop p) : Int) := by rw [← List.drop_drop]; unfold numF; omega
    have hn1 : numF (b.drop p) < 65536 := by unfold numF; omega
    rw [hp]
    simp only [hn]
    generalize hnn : numF (b.drop p) = n at hn1 ⊢
    have hpl := padN_le n
    have e2 : IntKind.i64.wrap ((p : Int) + (n : Int)) = ((p + n : Nat) : Int) := by rw [wrap_i64_id (by omega) (by omega)]; rfl
    have e3 : IntKind.i64.wrap (((p + n : Nat) : Int) + (padN n : Int)) = ((p + n + padN n : Nat) : Int) := by rw [wrap_i64_id (by omega) (by omega)]; rfl
    have e4 : IntKind.i64.wrap ((p : Int) + 4) = ((p + 4 : Nat) : Int) := by rw [wrap_i64_id (by omega) (by omega)]; rfl
    have e5 : IntKind.i64.wrap ((p : Int) + 1) = ((p + 1 : Nat) : Int) := by rw [wrap_i64_id (by omega) (by omega)]; rfl
    simp only [e2, Int.toNat_natCast, e3, e4, e5]
    refine ⟨⟨b, _, 2, rfl, h, hb, by unfold okI; omega, by omega, by omega⟩, fun t1 => err (by rw [first_form h4 (by omega)]) (by decide), fun t1 => ⟨⟨n, rfl, by omega⟩, fun t2 => err (by rw [first_short2 h4 (by omega) (by rw [hnn]; omega)]) (by decide), fun t2 => ?_⟩⟩
    refine ⟨(p + n, p + n + padN n), p + n, ⟨Nat.le_refl _, Nat.le_add_right _ _, fun j a1 a2 => by omega⟩, rfl, ?_⟩
    rintro j ⟨j1, j2, j3⟩
    simp only at j1 j2 j3 ⊢
    have hdd : ∀ k, (b.drop p).drop k = b.drop (p + k) := fun k => by rw [List.drop_drop]
    refine ⟨fun hj => ⟨⟨by omega, by omega⟩, fun hx => ?_, fun hx => ⟨j + 1, ⟨by omega, by omega, fun i a1 a2 => ?_⟩, by omega, by rw [wrap_i64_id (by omega) (by omega)]; rfl⟩⟩, fun hj => ?_⟩
    · refine err ?_ (by decide)
      rw [first_form2 h4 (by omega) (by rw [hnn]; omega)]
      rw [hnn, hdd]
      exact nz_true hb j1 (by omega) (by omega) hx
    · by_cases e : i = j
      · subst e; exact hx
      · exact j3 i a1 (by omega)
    · have hz : someNZ (((b.drop p).drop (numF (b.drop p))).take (padN (numF (b.drop p)))) = false := by
        rw [hnn, hdd]; exact nz_false fun i a1 a2 => j3 i a1 (by omega)
      have hfo := first_ok h4 (by omega) (by rw [hnn]; omega) hz
      rw [hnn, getD_drop, getD_drop, hdd, Nat.add_zero] at hfo
      have hl2 : ((b.drop (p + 4)).take (p + n - (p + 4))).length ≤ b.length := by rw [List.length_take, List.length_drop]; omega
      have e6 : p + n - (p + 4) = n - 4 := by omega
      refine ⟨⟨by omega, by omega⟩, ⟨by omega, by omega⟩, ⟨by omega, by omega, by omega⟩, by omega, by omega, (l ++ [(firstF (b.drop p)).1], p + n + padN n), ⟨?_, by simp only; omega, ?_⟩, ?_, ⟨?_, ?_⟩, rfl⟩
      · simp only [List.length_append, List.length_singleton]; omega
      · rw [getG_step (by omega) (by omega) (by rw [hfo]), hdd]
        simp only [List.length_append, List.length_singleton]
        rw [show 33 - (l.length + 1) = 32 - l.length by omega, hfo]
        simp only
        rw [show p + (n + padN n) = p + n + padN n by omega]
      · simp only [List.length_append, List.length_singleton]; omega
      · simp
      · intro i hi k hk
        rw [hfo, e6]
        exact app_ch l ⟨b.getD p 0, b.getD (p + 1) 0, (b.drop (p + 4)).take (n - 4)⟩ hi hk
  · have : b.drop p = [] := List.length_eq_zero_iff.1 (by omega)
    rw [this, hf, getG_nil]
    exact ⟨⟨rfl, fun _ _ _ _ => rfl⟩, rfl⟩
set_option maxRecDepth 100000 in
theorem ok21 : FnIs Try.prog 21 getsC := by
  refine fnIs (C := (ctrs c9)) (by kernel_rfl) c9_ok Try.func21 (code := code21) (by kernel_rfl) (by kernel_rfl) ?_
  rintro a ⟨b, rfl, h, hb⟩
  exact ⟨anns [(5, getAnn' b), (17, padAnn b)], kcast (vc21 b h hb) (by kernel_rfl)⟩

noncomputable def code22 : Code := match Try.f22.body with | some c => c | none => .skip
set_option maxHeartbeats 4000000 in
theorem vc22 : ∀ (l m : List ChR), okChs l → okChs m → ∃ (g0 : Nat), (g0 ≤ l.length ∧ g0 ≤ m.length ∧ ∀ (j : Nat), j < g0 → sameCh (l.getD j noCh) (m.getD j noCh) = true) ∧
  (0 : Int) = (↑g0 : Int) ∧ (true && true) = true ∧ ∀ (g : Nat), (g ≤ l.length ∧ g ≤ m.length ∧ ∀ (j : Nat), j < g → sameCh (l.getD j noCh) (m.getD j noCh) = true) →
  True ∧ sw (decide ((↑g : Int) < (↑l.length : Int))) (SV.c (Value.int IntKind.i64 (↑g : Int)) = SV.c (Value.int IntKind.i64 (↑g : Int))) True ∧ sw (decide ((↑g : Int) < (↑l.length : Int))) (SV.a (1 : Nat) = SV.a (1 : Nat)) True ∧
  sw (decide ((↑g : Int) < (↑l.length : Int))) ([decide ((↑g : Int) < (↑l.length : Int))] = [decide ((↑g : Int) < (↑l.length : Int))] ∧ SV.c (Value.int IntKind.i64 (↑m.length : Int)) = SV.c (Value.int IntKind.i64 (↑m.length : Int))) True ∧
  sw (decide ((↑g : Int) < (↑l.length : Int))) ([decide ((↑g : Int) < (↑l.length : Int))] = [decide ((↑g : Int) < (↑l.length : Int))] ∧ [decide ((↑g : Int) < (↑l.length : Int))] = [decide ((↑g : Int) < (↑l.length : Int))] ∧
  True ∧ SV.c (Value.bool (decide ((↑g : Int) < (↑m.length : Int)))) = SV.c (Value.bool (decide ((↑g : Int) < (↑m.length : Int))))) True ∧ [decide ((↑g : Int) < (↑l.length : Int))] = [decide ((↑g : Int) < (↑l.length : Int))] ∧
  sw (decide ((↑g : Int) < (↑l.length : Int)) && decide ((↑g : Int) < (↑m.length : Int))) (((0 : Int) ≤ (↑g : Int) ∧ (↑g : Int) < (↑l.length : Int)) ∧ ((0 : Int) ≤ (↑g : Int) ∧
  (↑g : Int) < (↑m.length : Int)) ∧ (∃ (c : ChR), ∃ (d : ChR), [O.agg [O.d (D.v (Value.int IntKind.u8 (l.getD (↑g : Int).toNat noCh).t)), O.d (D.v (Value.int IntKind.u8 (l.getD (↑g : Int).toNat noCh).f)), O.d (D.ints IntKind.u8 (l.getD (↑g : Int).toNat noCh).v)], O.agg [O.d (D.v (Value.int IntKind.u8 (m.getD (↑g : Int).toNat noCh).t)), O.d (D.v (Value.int IntKind.u8 (m.getD (↑g : Int).toNat noCh).f)), O.d (D.ints IntKind.u8 (m.getD (↑g : Int).toNat noCh).v)]] = [O.agg [O.d (D.v (Value.int IntKind.u8 c.t)), O.d (D.v (Value.int IntKind.u8 c.f)), O.d (D.ints IntKind.u8 c.v)], O.agg [O.d (D.v (Value.int IntKind.u8 d.t)), O.d (D.v (Value.int IntKind.u8 d.f)), O.d (D.ints IntKind.u8 d.v)]]) ∧
  sw (!sameCh (ChR.mk (vi (D.v (Value.int IntKind.u8 (l.getD (↑g : Int).toNat noCh).t))) (vi (D.v (Value.int IntKind.u8 (l.getD (↑g : Int).toNat noCh).f))) (vl (D.ints IntKind.u8 (l.getD (↑g : Int).toNat noCh).v))) (ChR.mk (vi (D.v (Value.int IntKind.u8 (m.getD (↑g : Int).toNat noCh).t))) (vi (D.v (Value.int IntKind.u8 (m.getD (↑g : Int).toNat noCh).f))) (vl (D.ints IntKind.u8 (m.getD (↑g : Int).toNat noCh).v)))) (false = sameChs (chsOf (D.recs (3 : Nat) l.length (chCell l))) (chsOf (D.recs (3 : Nat) m.length (chCell m))) ∧
  (true && true) = true) (True ∧ ∃ (g' : Nat), (g' ≤ l.length ∧ g' ≤ m.length ∧ ∀ (j : Nat), j < g' → sameCh (l.getD j noCh) (m.getD j noCh) = true) ∧ l.length - g' < l.length - g ∧
  (IntKind.i64.wrap ((↑g : Int) + (1 : Int)) = (↑g' : Int) ∧ (true && true && true) = true) ∧ (some (SV.a (0 : Nat)) = some (SV.a (0 : Nat)) ∧ some (SV.a (1 : Nat)) = some (SV.a (1 : Nat)) ∧
  True) ∧ some (R.ro (D.recs (3 : Nat) m.length (chCell m))) = some (R.ro (D.recs (3 : Nat) m.length (chCell m))) ∧ some (R.ro (D.recs (3 : Nat) l.length (chCell l))) = some (R.ro (D.recs (3 : Nat) l.length (chCell l))) ∧
  True)) (True ∧ decide ((↑l.length : Int) = (↑m.length : Int)) = sameChs (chsOf (D.recs (3 : Nat) l.length (chCell l))) (chsOf (D.recs (3 : Nat) m.length (chCell m))) ∧
  (true && true) = true) := by
  simp only [↓sw_iff, ↓Bool.and_eq_true, ↓Bool.and_eq_false_iff, ↓decide_eq_true_eq, ↓decide_eq_false_iff_not, ↓Bool.not_eq_true', ↓Bool.not_eq_false', true_and, and_true, implies_true, Int.toNat_natCast, vi, vl, chsOf_chs]
  intro l m hl hm
  obtain ⟨l1, l2⟩ := hl
  obtain ⟨m1, m2⟩ := hm
  refine ⟨0, ⟨Nat.zero_le _, Nat.zero_le _, fun j hj => absurd hj (Nat.not_lt_zero _)⟩, rfl, ?_⟩
  rintro g ⟨h1, h2, h3⟩
  refine ⟨fun hlt => ⟨⟨by omega, by omega⟩, ⟨by omega, by omega⟩, ⟨_, _, rfl⟩, fun he => (sames_false (by omega) (by omega) he).symm, fun he => ⟨g + 1, ⟨by omega, by omega, fun j hj => ?_⟩, by omega, by rw [wrap_i64_id (by omega) (by omega)]; rfl⟩⟩, fun hge => sames_end (by omega) h3⟩
  by_cases e : j = g
  · subst e; exact he
  · exact h3 j (by omega)
set_option maxRecDepth 100000 in
theorem ok22 : FnIs Try.prog 22 samesC := by
  refine fnIs (C := (ctrs c10)) (by kernel_rfl) c10_ok Try.func22 (code := code22) (by kernel_rfl) (by kernel_rfl) ?_
  rintro a ⟨l, m, rfl, hl, hm⟩
  exact ⟨anns [(2, samesAnn l m)], kcast (vc22 l m hl hm) (by kernel_rfl)⟩

end Go.ZR

/- Chunks: what is written is read; what is read, written again, is the same. Contracts of the statements. -/
namespace Go.ZM
open Go.Z Go.ZR
def okCB (l : List ChR) : Prop := ∀ c, c ∈ l → (0 ≤ c.t ∧ c.t ≤ 255) ∧ (0 ≤ c.f ∧ c.f ≤ 255) ∧ okB c.v
theorem chB_ok {c : ChR} (h1 : 0 ≤ c.t ∧ c.t ≤ 255) (h2 : 0 ≤ c.f ∧ c.f ≤ 255) (h3 : okB c.v) : okB (chB c) := by
  refine okB_append (fun x hx => ?_) (okB_append (be_ok _ _) (okB_padF h3))
  simp only [List.mem_cons, List.not_mem_nil, or_false] at hx
  rcases hx with rfl | rfl
  · exact h1
  · exact h2
theorem putB_ok {l : List ChR} (h : okCB l) : okB (putB l) := fun x hx => by
  obtain ⟨c, hc, hx⟩ := List.mem_flatMap.1 hx
  obtain ⟨h1, h2, h3⟩ := h c hc
  exact chB_ok h1 h2 h3 x hx
theorem putB_cons (c : ChR) (l : List ChR) : putB (c :: l) = chB c ++ putB l := by simp [putB]
theorem putB_append (l m : List ChR) : putB (l ++ m) = putB l ++ putB m := by simp [putB]
theorem numF_put (c : ChR) (r : List Int) (h : c.v.length ≤ 65531) : numF (chB c ++ r) = 4 + c.v.length := by
  have : ((chB c ++ r).drop 2).take 2 = be (4 + (c.v.length : Int)) 2 := by
    have e : chB c ++ r = [c.t, c.f] ++ (be (4 + (c.v.length : Int)) 2 ++ (padF c.v ++ r)) := by simp [chB]
    rw [e, List.drop_append_of_le_length (by simp), List.drop_of_length_le (by simp), List.nil_append, List.take_append_of_le_length (by simp [be_len]), List.take_of_length_le (by simp [be_len])]
  unfold numF
  rw [this, val_be]
  have : (256 : Int) ^ 2 = 65536 := rfl
  omega
theorem first_put (c : ChR) (r : List Int) (h : c.v.length ≤ 65531) : firstF (chB c ++ r) = (c, (chB c).length, 0) := by
  have hl := chB_len c
  have hn := numF_put c r h
  have hp : padN (4 + c.v.length) = padN c.v.length := by unfold padN; omega
  have e : chB c ++ r = [c.t, c.f] ++ (be (4 + (c.v.length : Int)) 2 ++ (c.v ++ (List.replicate (padN c.v.length) 0 ++ r))) := by simp [chB, padF]
  have hd : ∀ k, (chB c ++ r).drop (4 + k) = (c.v ++ (List.replicate (padN c.v.length) 0 ++ r)).drop k := fun k => by
    rw [← List.drop_drop]
    congr 1
    rw [e, ← List.append_assoc, List.drop_append_of_le_length (by simp [be_len]), List.drop_of_length_le (by simp [be_len]), List.nil_append]
  have hz : someNZ (((chB c ++ r).drop (numF (chB c ++ r))).take (padN (numF (chB c ++ r)))) = false := by
    rw [hn, hp, hd, List.drop_append_of_le_length (Nat.le_refl _), List.drop_of_length_le (Nat.le_refl _), List.nil_append, List.take_append_of_le_length (by simp), List.take_of_length_le (by simp), someNZ, List.any_eq_false]
    intro x hx
    have := List.eq_of_mem_replicate hx
    simp [this]
  rw [first_ok (by simp; omega) (by omega) (by rw [hn, hp]; simp; omega) hz, hn, hp]
  have h4 := hd 0
  rw [Nat.add_zero, List.drop_zero] at h4
  rw [h4, show 4 + c.v.length - 4 = c.v.length by omega, List.take_append_of_le_length (Nat.le_refl _), List.take_of_length_le (Nat.le_refl _)]
  refine Prod.ext ?_ (Prod.ext ?_ rfl)
  · have e0 : (chB c ++ r).getD 0 0 = c.t := by rw [e]; rfl
    have e1 : (chB c ++ r).getD 1 0 = c.f := by rw [e]; rfl
    simp only [e0, e1]
  · simp only; omega
theorem getG_put : ∀ (l : List ChR) (acc : List ChR) (f : Nat), acc.length + l.length ≤ 32 → f = 33 - acc.length → (∀ c, c ∈ l → c.v.length ≤ 65531) → getG f acc (putB l) = (acc ++ l, 0)
  | [], acc, f, h, hf, _ => by
    obtain ⟨k, rfl⟩ : ∃ k, f = k + 1 := ⟨f - 1, by simp at h; omega⟩
    show getG (k + 1) acc [] = _
    rw [getG_nil, List.append_nil]
  | c :: l, acc, f, h, hf, hv => by
    simp only [List.length_cons] at h
    obtain ⟨k, rfl⟩ : ∃ k, f = k + 1 := ⟨f - 1, by omega⟩
    have hfi := first_put c (putB l) (hv c (List.mem_cons_self ..))
    have hl := chB_len c
    rw [putB_cons, getG_step (by rw [List.length_append]; omega) (by omega) (by rw [hfi]), hfi]
    simp only
    rw [List.drop_append_of_le_length (Nat.le_refl _), List.drop_of_length_le (Nat.le_refl _), List.nil_append, getG_put l (acc ++ [c]) k (by simp; omega) (by simp; omega) (fun d hd => hv d (List.mem_cons_of_mem _ hd))]
    simp
theorem put_small {l : List ChR} (h : (putB l).length ≤ 4096) : ∀ c, c ∈ l → c.v.length ≤ 65531 := fun c hc => by
  have : (chB c).length ≤ (putB l).length := by
    obtain ⟨a, b, rfl⟩ := List.append_of_mem hc
    rw [putB_append, putB_cons]; simp; omega
  rw [chB_len] at this; omega
theorem get_put {l : List ChR} (h : l.length ≤ 32) (h' : (putB l).length ≤ 4096) : getR (putB l) = (l, 0) := by
  rw [getR_eq (by omega), getG_put l [] 33 (by simpa using h) rfl (put_small h')]; rfl
/-- What a first chunk is made of. -/
theorem first_bytes {b : List Int} (hb : okB b) (h : (firstF b).2.2 = 0) : b = chB (firstF b).1 ++ b.drop (firstF b).2.1 ∧ (firstF b).1.v.length ≤ 65531 := by
  by_cases h0 : b.length < 4
  · rw [first_short h0] at h; cases h
  by_cases h1 : numF b < 4
  · rw [first_form h0 h1] at h; cases h
  by_cases h2 : b.length < numF b + padN (numF b)
  · rw [first_short2 h0 h1 h2] at h; cases h
  cases h3 : someNZ ((b.drop (numF b)).take (padN (numF b))) with
  | true => rw [first_form2 h0 h1 h2 h3] at h; cases h
  | false =>
    rw [first_ok h0 h1 h2 h3]
    simp only
    obtain ⟨n0, n1⟩ := num_lt hb
    have hn : (numF b : Int) = valF ((b.drop 2).take 2) := by unfold numF; omega
    have hlv : ((b.drop 4).take (numF b - 4)).length = numF b - 4 := by rw [List.length_take, List.length_drop]; omega
    have hpp : padN (numF b - 4) = padN (numF b) := by unfold padN; omega
    refine ⟨?_, by rw [hlv]; omega⟩
    have s1 : b = b.take 2 ++ b.drop 2 := (List.take_append_drop 2 b).symm
    have s2 : b.drop 2 = (b.drop 2).take 2 ++ b.drop 4 := by
      have := (List.take_append_drop 2 (b.drop 2)).symm
      rw [List.drop_drop] at this; exact this
    have s3 : b.drop 4 = (b.drop 4).take (numF b - 4) ++ b.drop (numF b) := by
      have := (List.take_append_drop (numF b - 4) (b.drop 4)).symm
      rw [List.drop_drop, show 4 + (numF b - 4) = numF b by omega] at this; exact this
    have s4 : b.drop (numF b) = (b.drop (numF b)).take (padN (numF b)) ++ b.drop (numF b + padN (numF b)) := by
      have := (List.take_append_drop (padN (numF b)) (b.drop (numF b))).symm
      rw [List.drop_drop] at this; exact this
    have t1 : b.take 2 = [b.getD 0 0, b.getD 1 0] := by
      match b, h0 with
      | x :: y :: _, _ => rfl
      | [_], h0 => simp at h0
      | [], h0 => simp at h0
    have t2 : (b.drop 2).take 2 = be (4 + (((b.drop 4).take (numF b - 4)).length : Int)) 2 := by
      rw [hlv, show (4 : Int) + ((numF b - 4 : Nat) : Int) = (numF b : Int) by omega, hn]
      have := be_val (okB_take (okB_drop hb 2) 2)
      rw [show ((b.drop 2).take 2).length = 2 by rw [List.length_take, List.length_drop]; omega] at this
      exact this.symm
    have t3 : (b.drop (numF b)).take (padN (numF b)) = List.replicate (padN (numF b)) 0 := by
      rw [List.eq_replicate_iff]
      refine ⟨by rw [List.length_take, List.length_drop]; omega, fun x hx => ?_⟩
      rw [someNZ, List.any_eq_false] at h3
      have a1 := h3 x hx
      have a2 := okB_take (okB_drop hb (numF b)) _ x hx
      have a3 : ¬ 0 < x := by simpa using a1
      omega
    have hc : chB ⟨b.getD 0 0, b.getD 1 0, (b.drop 4).take (numF b - 4)⟩ = b.take 2 ++ ((b.drop 2).take 2 ++ ((b.drop 4).take (numF b - 4) ++ (b.drop (numF b)).take (padN (numF b)))) := by
      unfold chB padF
      simp only
      rw [t1, t2, t3, hlv, hpp]
    rw [hc]
    simp only [List.append_assoc]
    rw [← s4, ← s3, ← s2, ← s1]
theorem put_get : ∀ (f : Nat) (acc : List ChR) (b : List Int) (l : List ChR), okB b → acc.length ≤ 32 → getG f acc b = (l, 0) → ∃ m, l = acc ++ m ∧ putB m = b ∧ l.length ≤ 32
  | 0, acc, b, l, _, _, h => by rw [getG] at h; cases h
  | f + 1, acc, b, l, hb, ha, h => by
    by_cases h0 : b.length = 0
    · have : b = [] := List.length_eq_zero_iff.1 h0
      subst this
      rw [getG_nil] at h
      cases h
      exact ⟨[], by simp, rfl, ha⟩
    by_cases h1 : 32 ≤ acc.length
    · rw [getG_full h0 h1] at h; cases h
    by_cases h2 : (firstF b).2.2 = 0
    · rw [getG_step h0 h1 h2] at h
      obtain ⟨m, h3, h4, h5⟩ := put_get f _ _ l (okB_drop hb _) (by simp; omega) h
      refine ⟨(firstF b).1 :: m, by rw [h3]; simp, ?_, h5⟩
      rw [putB_cons, h4, ← (first_bytes hb h2).1]
    · rw [getG_err h0 h1 h2] at h
      exact absurd (congrArg Prod.snd h) h2
theorem getG_len : ∀ (f : Nat) (acc : List ChR) (b : List Int), okB b → acc.length ≤ 32 → (∀ c, c ∈ acc → c.v.length ≤ 65531) → (getG f acc b).1.length ≤ 32 ∧ ∀ c, c ∈ (getG f acc b).1 → c.v.length ≤ 65531
  | 0, acc, b, _, _, _ => by rw [getG]; exact ⟨Nat.zero_le _, fun c hc => by cases hc⟩
  | f + 1, acc, b, hb, ha, hv => by
    by_cases h0 : b.length = 0
    · have : b = [] := List.length_eq_zero_iff.1 h0
      subst this
      rw [getG_nil]; exact ⟨ha, hv⟩
    by_cases h1 : 32 ≤ acc.length
    · rw [getG_full h0 h1]; exact ⟨Nat.zero_le _, fun c hc => by cases hc⟩
    by_cases h2 : (firstF b).2.2 = 0
    · rw [getG_step h0 h1 h2]
      refine getG_len f _ _ (okB_drop hb _) (by simp; omega) fun c hc => ?_
      rcases List.mem_append.1 hc with hc | hc
      · exact hv c hc
      · rw [List.mem_singleton.1 hc]; exact (first_bytes hb h2).2
    · rw [getG_err h0 h1 h2]; exact ⟨Nat.zero_le _, fun c hc => by cases hc⟩
theorem getR_ok {b : List Int} (hb : okB b) : okChs (getR b).1 := by
  by_cases h : 4096 < b.length
  · rw [getR_big h]; exact ⟨Nat.zero_le _, fun c hc => by cases hc⟩
  · rw [getR_eq h]
    obtain ⟨h1, h2⟩ := getG_len 33 [] b hb (Nat.zero_le _) (fun c hc => by cases hc)
    exact ⟨by omega, fun c hc => by have := h2 c hc; unfold sm; omega⟩
theorem getG_err_nil : ∀ (f : Nat) (acc : List ChR) (b : List Int), (getG f acc b).2 ≠ 0 → (getG f acc b).1 = []
  | 0, acc, b, _ => by rw [getG]
  | f + 1, acc, b, h => by
    by_cases h0 : b.length = 0
    · have : b = [] := List.length_eq_zero_iff.1 h0
      subst this
      rw [getG_nil] at h; exact absurd rfl h
    by_cases h1 : 32 ≤ acc.length
    · rw [getG_full h0 h1]
    by_cases h2 : (firstF b).2.2 = 0
    · rw [getG_step h0 h1 h2] at h ⊢
      exact getG_err_nil f _ _ h
    · rw [getG_err h0 h1 h2]
theorem getR_err {b : List Int} (h : (getR b).2 ≠ 0) : (getR b).1 = [] := by
  by_cases hb : 4096 < b.length
  · rw [getR_big hb]
  · rw [getR_eq hb] at h ⊢; exact getG_err_nil _ _ _ h
theorem getR_put {b : List Int} (hb : okB b) (h : (getR b).2 = 0) : putR (getR b).1 = (b, 0) := by
  by_cases h1 : 4096 < b.length
  · rw [getR_big h1] at h; cases h
  · rw [getR_eq h1] at h ⊢
    obtain ⟨m, e1, e2, e3⟩ := put_get 33 [] b (getG 33 [] b).1 hb (Nat.zero_le _) (Prod.ext rfl h)
    rw [List.nil_append] at e1
    rw [e1, put_ok (by rw [← e1]; exact e3) (by rw [e2]; omega), e2]
theorem sameCh_refl (c : ChR) : sameCh c c = true := by simp [sameCh]
theorem sames_refl (l : List ChR) : sameChs l l = true := by
  have : ((List.range (min l.length l.length)).all fun i => sameCh (l.getD i noCh) (l.getD i noCh)) = true := by
    rw [List.all_eq_true]; intro x _; exact sameCh_refl _
  unfold sameChs; rw [this]; simp
theorem putR_zero {l : List ChR} (h : (putR l).2 = 0) : l.length ≤ 32 ∧ (putB l).length ≤ 4096 ∧ (putR l).1 = putB l := by
  unfold putR at h ⊢
  split at h
  · cases h
  · rename_i hc
    rw [if_neg hc]; exact ⟨by omega, by omega, rfl⟩
theorem putR_len (l : List ChR) : (putR l).1.length ≤ 4096 := by
  unfold putR
  split
  · exact Nat.zero_le _
  · simp only; omega
theorem putR_ok {l : List ChR} (h : okCB l) : okB (putR l).1 := by
  unfold putR
  split
  · exact fun x hx => by cases hx
  · exact putB_ok h
/-- A list of chunks, however it was laid. -/
def asCh (A : D) (l : List ChR) : Prop := chsOf A = l ∧ readsTo A (.recs 3 l.length (chCell l))
end Go.ZM
namespace Go.ZR
open Go.Z Go.ZM Go.Proofs
def trueC (n : Nat) (pre : List O → Prop) : Ctr := nC n false pre fun _ => [bO true]
theorem asCh_self (l : List ChR) : asCh (.recs 3 l.length (chCell l)) l := ⟨chsOf_chs l, readsTo_refl _⟩
def samesWC : Ctr := nC 2 true (fun a => ∃ l m A B, a = [.d A, .d B] ∧ okChs l ∧ okChs m ∧ asCh A l ∧ asCh B m) fun a => [bO (sameChs (chsOf (dO (at_ a 0))) (chsOf (dO (at_ a 1))))]
theorem ok22w : FnIs Try.prog 22 samesWC := by
  refine ok22.weak fun a hp => ?_
  obtain ⟨l, m, A, B, rfl, h1, h2, ⟨r1, r2⟩, ⟨s1, s2⟩⟩ := hp
  refine ⟨[.d (chsD l), .d (chsD m)], ⟨l, m, rfl, h1, h2⟩, ?_, ?_, rfl⟩
  · exact toL_cons (toO_d r2) (toL_cons (toO_d s2) (toL_refl _))
  · show [bO (sameChs (chsOf (chsD l)) (chsOf (chsD m)))] = [bO (sameChs (chsOf A) (chsOf B))]
    rw [r1, s1, chsD, chsD, chsOf_chs, chsOf_chs]
theorem asCh_app (l m : List ChR) : asCh (.recs 3 (l.length + m.length) (fun i j => bif i.blt l.length then chCell l i j else chCell m (i - l.length) j)) (l ++ m) := by
  have hr : readsTo (.recs 3 (l.length + m.length) (fun i j => bif i.blt l.length then chCell l i j else chCell m (i - l.length) j)) (chsD (l ++ m)) := by
    unfold chsD
    rw [List.length_append]
    refine reads_recs fun i hi j hj => ?_
    by_cases h : i < l.length
    · have e : (l ++ m).getD i noCh = l.getD i noCh := by simp [List.getD, List.getElem?_append_left h]
      rw [blt_t h, _root_.cond_true]; unfold chCell; rw [e]
    · have e : (l ++ m).getD i noCh = m.getD (i - l.length) noCh := by simp [List.getD, List.getElem?_append_right (by omega : l.length ≤ i)]
      rw [blt_f h, _root_.cond_false]; unfold chCell; rw [e]
  refine ⟨?_, hr⟩
  have e : (List.range (l.length + m.length)).map (fun i => chAt fun j => bif i.blt l.length then chCell l i j else chCell m (i - l.length) j) = (List.range (l ++ m).length).map (fun i => (l ++ m).getD i noCh) := by
    rw [List.length_append]
    apply List.map_congr_left
    intro i hi
    have hi := List.mem_range.1 hi
    by_cases h : i < l.length
    · have e : (l ++ m).getD i noCh = l.getD i noCh := by simp [List.getD, List.getElem?_append_left h]
      rw [e, blt_t h]; rfl
    · have e : (l ++ m).getD i noCh = m.getD (i - l.length) noCh := by simp [List.getD, List.getElem?_append_right (by omega : l.length ≤ i)]
      rw [e, blt_f h]; rfl
  exact e.trans (range_getD (l ++ m) noCh)
def putLawC : Ctr := trueC 1 fun a => ∃ l, a = [.d (chsD l)] ∧ okChs l
def getLawC : Ctr := trueC 1 fun a => ∃ b, a = [bsO b] ∧ sm b.length ∧ okB b
def backLawC : Ctr := trueC 3 fun a => ∃ l m b, a = [.d (chsD l), .d (chsD m), bsO b] ∧ okChs l ∧ okChs m ∧ okCB l ∧ okCB m ∧ sm b.length ∧ okB b
def c11 : List (Nat × Ctr) := [(15, ownC), (14, putsC), (16, putsC), (17, ansC), (20, getsC), (21, getsC), (22, samesWC)]
theorem c11_ok : COk Try.prog (ctrs c11) := cok_cons ok15 (cok_cons ok14 (cok_cons ok16 (cok_cons ok17 (cok_cons ok20 (cok_cons ok21 (cok_cons ok22w cok_nil))))))
end Go.ZR

/- Arguments of any depth (numbers, tests, texts, slices, structs), opened as data; how long they are at most. -/
namespace Go.Z
open Go.ChangeShapes Go.WideShapes Go.ChangeAt Go.RowKit
open Go.Proofs.Ytonfaeenoifomaa.Rows (uptoBulk uptoBulkAll)

/-- A cell's shape. -/
inductive Sh where
  | int (k : IntKind)
  | bool
  | str
  | ints (k : IntKind)
  | recs (l : List Sh)

def flatFs (f : Nat → Option (List Sh)) (co : Nat → Nat) : List Field → Nat → Option (List Sh)
  | [], _ => some []
  | x :: l, o => cond (Nat.beq x.offset o) (match f x.type with
    | some a => cond (Nat.beq (co x.type) a.length) (match flatFs f co l (o + a.length) with
      | some b => some (a ++ b)
      | none => none) none
    | none => none) none

/-- A type's cells. -/
def flat (P : Program) : Nat → Nat → Option (List Sh)
  | 0, _ => none
  | n + 1, t => match P.underlying t with
    | some (.int k) => some [.int k]
    | some .bool => some [.bool]
    | some .string => some [.str]
    | some (.slice e) => match P.underlying e with
      | some (.int k) => cond (Nat.beq (P.cellsOf e) 1) (some [.ints k]) none
      | _ => match flat P n e with
        | some (s :: l) => cond (Nat.beq (P.cellsOf e) (l.length + 1)) (some [.recs (s :: l)]) none
        | _ => none
    | some (.struct fs) => match flatFs (flat P n) P.cellsOf fs.toList 0 with
      | some l => cond (Nat.beq (P.cellsOf t) l.length) (some l) none
      | none => none
    | _ => none

mutual
/-- Data of a shape, nothing longer than N. -/
def fits (N : Nat) : Sh → D → Prop
  | .int k, d => ∃ n, d = .v (.int k n) ∧ k.min ≤ n ∧ n ≤ k.max
  | .bool, d => ∃ b, d = .v (.bool b)
  | .str, d => ∃ s : ByteArray, d = .v (.string s) ∧ s.size ≤ N
  | .ints k, d => ∃ xs, d = .ints k xs ∧ (∀ x, x ∈ xs → k.min ≤ x ∧ x ≤ k.max) ∧ xs.length ≤ N
  | .recs l, d => ∃ n f, d = .recs l.length n f ∧ n ≤ N ∧ ∀ i, i < n → fitsL N l (f i)
def fitsL (N : Nat) : List Sh → (Nat → D) → Prop
  | [], _ => True
  | s :: l, g => fits N s (g 0) ∧ fitsL N l fun j => g (j + 1)
end

theorem DL.append {X : Nat → Prop} {w : World} : ∀ {a b : List D} {u v : List Value}, DL.holds X w a u → DL.holds X w b v → DL.holds X w (a ++ b) (u ++ v)
  | [], _, [], _, _, hb => hb
  | [], _, _ :: _, _, ha, _ => ha.elim
  | _ :: _, _, [], _, ha, _ => ha.elim
  | _ :: _, _, _ :: _, _, ha, hb => ⟨ha.1, DL.append ha.2 hb⟩
theorem fitsL_congr {N : Nat} : ∀ {l : List Sh} {f g : Nat → D}, (∀ j, j < l.length → f j = g j) → fitsL N l f → fitsL N l g
  | [], _, _, _, _ => by simp [fitsL]
  | s :: l, f, g, h, hf => by
    simp only [fitsL] at hf ⊢
    exact ⟨by rw [← h 0 (by simp)]; exact hf.1, fitsL_congr (fun j hj => h (j + 1) (by simpa using hj)) hf.2⟩
theorem fitsL_append {N : Nat} : ∀ {l m : List Sh} {a b : List D}, a.length = l.length → fitsL N l (fun j => a.getD j (.v undef)) → fitsL N m (fun j => b.getD j (.v undef)) → fitsL N (l ++ m) (fun j => (a ++ b).getD j (.v undef))
  | [], m, [], b, _, _, hb => by simpa using hb
  | [], _, _ :: _, _, h, _, _ => by simp at h
  | _ :: _, _, [], _, h, _, _ => by simp at h
  | s :: l, m, x :: a, b, h, ha, hb => by
    simp only [List.cons_append, fitsL, List.getD_cons_zero, List.getD_cons_succ] at ha ⊢
    exact ⟨ha.1, fitsL_append (by simpa using h) ha.2 hb⟩

section
variable {H : Type} {enc : TypeId × Value → H} {P : Program} {w : World} {base : Nat} {held : Bool}

theorem bulk_pos (d : DataW H) : 1 ≤ uptoBulk d := by
  cases d with
  | lit l => cases l <;> simp [uptoBulk]
  | _ => simp [uptoBulk]
theorem bulk_mem : ∀ {l : List (DataW H)} {d : DataW H}, d ∈ l → uptoBulk d ≤ uptoBulkAll l
  | [], _, h => by cases h
  | x :: l, d, h => by
    simp only [uptoBulkAll]
    rcases List.mem_cons.1 h with rfl | h
    · omega
    · have := bulk_mem h; omega
theorem bulk_len : ∀ (l : List (DataW H)), l.length ≤ uptoBulkAll l
  | [] => by simp
  | x :: l => by
    have := bulk_len l
    have := bulk_pos x
    simp only [uptoBulkAll, List.length_cons]; omega

/-- It is no longer than N: as a whole; or no slice is. -/
def Bnd (N : Nat) (d : DataW H) : Prop := uptoBulk d ≤ N ∨ maxLen ≤ N

theorem ints_trod {t e : TypeId} {k : IntKind} {fuel : Nat} {cs : List Value} {x : DataW H × List MemPlace} (ht : P.underlying t = some (.slice e)) (he : P.underlying e = some (.int k)) (hc : P.cellsOf e = 1)
    (hf : DataW.trod enc P w base (fun _ => true) held fuel t cs = some x) {N : Nat} (hb : Bnd N x.1) :
    ∃ v xs, cs = [v] ∧ (D.ints k xs).holds (fun _ => True) w v ∧ (∀ y, y ∈ xs → k.min ≤ y ∧ y ≤ k.max) ∧ xs.length ≤ N := by
  rcases open_ints ht he hc hf with ⟨rfl, _⟩ | ⟨a, len, cap, zs, rfl, _, hl, hm, hz, hx, hcell, hwz⟩
  · exact ⟨_, [], rfl, D.holds_ints.2 ⟨nilLoc, rfl, .inl rfl, fun h => absurd rfl h, rfl, Nat.le_refl _, fun i z hi => by simp at hi⟩, by simp, by simp⟩
  · simp at hz
    have hlen : (zs.take len).length = len := by simp; omega
    have hxs : ∀ y, y ∈ zs.take len → k.min ≤ y ∧ y ≤ k.max := fun y hy => by
      have := hwz y (List.mem_of_mem_take hy)
      simpa [Lit.wf] using this
    have hN : (zs.take len).length ≤ N := by
      rcases hb with hb | hb
      · rw [hx] at hb
        simp only [uptoBulk] at hb
        have := bulk_len (lits (H := H) k (zs.take len))
        have h2 : (lits (H := H) k (zs.take len)).length = (zs.take len).length := by simp [lits]
        omega
      · omega
    by_cases hcap : cap = 0
    · refine ⟨_, zs.take len, rfl, D.holds_ints.2 ⟨⟨some a, len, cap⟩, rfl, .inl hcap, fun hne => absurd hne (by show ¬ len ≠ 0; omega), hlen.symm, hl, fun i z hi => ?_⟩, hxs, hN⟩
      have := (List.getElem?_eq_some_iff.1 hi).1
      omega
    · have h0 := hcell 0 (by omega)
      have ha := spot_none h0
      have ha' : a = ⟨a.block, a.off, none⟩ := by simpa [Addr.add] using ha
      generalize hbb : a.block = b at *
      generalize ho : a.off = o at *
      subst ha'
      refine ⟨_, zs.take len, rfl, D.holds_ints.2 ⟨⟨some ⟨b, o, none⟩, len, cap⟩, rfl, .inr rfl, fun hne => ⟨trivial, lt_of_cell (b := b) (o := o) (by rw [add_spot] at h0; exact h0)⟩, hlen.symm, hl, fun i z hi => ?_⟩, hxs, hN⟩
      have hi1 := (List.getElem?_eq_some_iff.1 hi).1
      have hc := hcell i (by omega)
      rw [add_spot] at hc
      have : zs.getD i 0 = z := by
        rw [List.getElem?_take] at hi
        split at hi
        · simp [List.getD_eq_getElem?_getD, hi]
        · cases hi
      rw [this] at hc
      exact hc

/-- What an opening yields. -/
def Opens (w : World) (N : Nat) (shs : List Sh) (cs : List Value) : Prop :=
  ∃ ds : List D, ds.length = shs.length ∧ fitsL N shs (fun j => ds.getD j (.v undef)) ∧ DL.holds (fun _ => True) w ds cs

theorem flds_open {fuel : Nat} {f : Nat → Option (List Sh)} {N : Nat} {cs : List Value}
    (ih : ∀ t c (x : DataW H × List MemPlace) shs, DataW.trod enc P w base (fun _ => true) held fuel t c = some x → f t = some shs → Bnd N x.1 → Opens w N shs c) :
    ∀ (l : List Field) (o : Nat) (shs : List Sh) (xs : List (DataW H × List MemPlace)), flatFs f P.cellsOf l o = some shs → xs.length = l.length →
      (∀ (i : Nat) (fl : Field), l[i]? = some fl → DataW.trod enc P w base (fun _ => true) held fuel fl.type ((cs.drop fl.offset).take (P.cellsOf fl.type)) = xs[i]?) → (∀ x, x ∈ xs → Bnd N x.1) →
      Opens w N shs ((cs.drop o).take shs.length)
  | [], o, shs, xs, hf, _, _, _ => by
    simp [flatFs] at hf; subst hf
    exact ⟨[], rfl, by simp [fitsL], by simp; trivial⟩
  | fl :: l, o, shs, [], _, hl, _, _ => by simp at hl
  | fl :: l, o, shs, x :: xs, hf, hl, hx, hb => by
    unfold flatFs at hf
    cases ho : Nat.beq fl.offset o with
    | false => rw [ho] at hf; cases hf
    | true =>
      rw [ho] at hf
      simp only [_root_.cond_true] at hf
      split at hf <;> try (cases hf; done)
      rename_i a ha
      cases hc : Nat.beq (P.cellsOf fl.type) a.length with
      | false => rw [hc] at hf; cases hf
      | true =>
        rw [hc] at hf
        simp only [_root_.cond_true] at hf
        split at hf <;> cases hf
        rename_i b hb'
        have ho := Nat.eq_of_beq_eq_true ho
        have hc := Nat.eq_of_beq_eq_true hc
        have h0 := hx 0 fl rfl
        rw [ho, hc] at h0
        obtain ⟨d1, a1, a2, a3⟩ := ih _ _ _ _ h0 ha (hb x (by simp))
        obtain ⟨d2, b1, b2, b3⟩ := flds_open ih l (o + a.length) b xs hb' (by simpa using hl) (fun i g hg => hx (i + 1) g (by simpa using hg)) (fun y hy => hb y (by simp [hy]))
        refine ⟨d1 ++ d2, by simp [a1, b1], fitsL_append a1 a2 b2, ?_⟩
        rw [List.length_append, List.take_add, List.drop_drop]
        exact DL.append a3 b3

theorem deep : ∀ (m : Nat) (t : TypeId) (fuel : Nat) (cs : List Value) (x : DataW H × List MemPlace) (shs : List Sh) (N : Nat),
    DataW.trod enc P w base (fun _ => true) held fuel t cs = some x → flat P m t = some shs → Bnd N x.1 → Opens w N shs cs
  | 0, _, _, _, _, _, _, _, hs, _ => by simp [flat] at hs
  | m + 1, t, fuel, cs, x, shs, N, hf, hs, hb => by
    unfold flat at hs
    split at hs
    · rename_i k ht
      cases hs
      obtain ⟨n, rfl, rfl, hw⟩ := DataW.trod_int ht hf
      exact ⟨[.v (.int k n)], rfl, by simp only [fitsL, fits, and_true]; exact ⟨n, rfl, by simpa [Lit.wf] using hw⟩, ⟨rfl, rfl⟩, trivial⟩
    · rename_i ht
      cases hs
      obtain ⟨b, rfl, rfl⟩ := DataW.trod_bool ht hf
      exact ⟨[.v (.bool b)], rfl, by simp only [fitsL, fits, and_true]; exact ⟨b, rfl⟩, ⟨rfl, rfl⟩, trivial⟩
    · rename_i ht
      cases hs
      obtain ⟨s, rfl, rfl, hm⟩ := DataW.trod_string ht hf
      refine ⟨[.v (.string s)], rfl, ?_, ⟨rfl, rfl⟩, trivial⟩
      simp only [fitsL, fits, and_true]
      refine ⟨s, rfl, ?_⟩
      rcases hb with hb | hb
      · simp only [uptoBulk] at hb
        have : s.data.toList.length = s.size := Array.length_toList
        omega
      · omega
    · rename_i e ht
      split at hs
      · rename_i k he
        cases hc : Nat.beq (P.cellsOf e) 1 with
        | false => rw [hc] at hs; cases hs
        | true =>
          rw [hc] at hs
          cases hs
          obtain ⟨v, xs, rfl, h1, h2, h3⟩ := ints_trod ht he (Nat.eq_of_beq_eq_true hc) hf hb
          exact ⟨[.ints k xs], rfl, by simp only [fitsL, fits, and_true]; exact ⟨xs, rfl, h2, h3⟩, h1, trivial⟩
      · split at hs
        · rename_i s l hfl
          cases hc : Nat.beq (P.cellsOf e) (l.length + 1) with
          | false => rw [hc] at hs; cases hs
          | true =>
            rw [hc] at hs
            cases hs
            have hc := Nat.eq_of_beq_eq_true hc
            rcases DataW.trod_slice ht hf with ⟨rfl, rfl⟩ | ⟨a, len, cap, elems, rest, n, rfl, rfl, rfl, hbs, hl, hm, hlen, hel, hsp, -⟩
            · refine ⟨[.recs (l.length + 1) 0 fun _ _ => .v undef], rfl, ?_, D.holds_recs.2 ⟨nilLoc, rfl, .inl rfl, fun h => absurd rfl h, rfl, Nat.le_refl _, fun i hi => by omega⟩, trivial⟩
              simp only [fitsL, fits, and_true]
              exact ⟨0, fun _ _ => .v undef, rfl, Nat.zero_le _, fun i hi => by omega⟩
            · have hN : len ≤ N := by
                rcases hb with hb | hb
                · simp only [uptoBulk] at hb
                  have := bulk_len (elems.map (·.1))
                  simp at this
                  omega
                · omega
              have each : ∀ i, i < len → ∃ c, w.cells? base (a.add (i * P.cellsOf e)) (P.cellsOf e) = some c ∧ Opens w N (s :: l) c := fun i hi => by
                have h1 := hel i hi
                have hy : elems[i]? = some elems[i] := List.getElem?_eq_getElem (by omega)
                rw [hy, Option.bind_eq_some_iff] at h1
                obtain ⟨c, h1, h2⟩ := h1
                refine ⟨c, h1, deep m e n c _ _ N h2 hfl ?_⟩
                rcases hb with hb | hb
                · left
                  simp only [uptoBulk] at hb
                  have : uptoBulk (elems[i]).1 ≤ uptoBulkAll (elems.map (·.1)) := bulk_mem (List.mem_map_of_mem (List.getElem_mem _))
                  omega
                · exact .inr hb
              have each' : ∀ i, ∃ ds : List D, i < len → fitsL N (s :: l) (fun j => ds.getD j (.v undef)) ∧ ∃ c, w.cells? base (a.add (i * P.cellsOf e)) (P.cellsOf e) = some c ∧ DL.holds (fun _ => True) w ds c ∧ ds.length = l.length + 1 := fun i => by
                by_cases hi : i < len
                · obtain ⟨c, h1, ds, h2, h3, h4⟩ := each i hi
                  exact ⟨ds, fun _ => ⟨h3, c, h1, h4, h2⟩⟩
                · exact ⟨[], fun h => absurd h hi⟩
              have hF' := fun i => Classical.choose_spec (each' i)
              generalize hFF : (fun i => Classical.choose (each' i)) = F
              have hF : ∀ i, i < len → fitsL N (s :: l) (fun j => (F i).getD j (.v undef)) ∧ ∃ c, w.cells? base (a.add (i * P.cellsOf e)) (P.cellsOf e) = some c ∧ DL.holds (fun _ => True) w (F i) c ∧ (F i).length = l.length + 1 := fun i => by rw [← hFF]; exact hF' i
              clear hF' hFF
              have first : cap ≠ 0 → ∃ c, w.cells? base (a.add (0 * P.cellsOf e)) (P.cellsOf e) = some c := fun hne => by
                by_cases h0 : len = 0
                · obtain ⟨r1, r2⟩ := hsp rfl
                  have h1 := r2 0 (by omega)
                  have hy : rest[0]? = some rest[0] := List.getElem?_eq_getElem (by omega)
                  rw [hy, Option.bind_eq_some_iff] at h1
                  obtain ⟨c, h1, _⟩ := h1
                  exact ⟨c, by rw [show 0 * P.cellsOf e = (len + 0) * P.cellsOf e by rw [h0]]; exact h1⟩
                · obtain ⟨_, c, h1, _⟩ := hF 0 (by omega)
                  exact ⟨c, h1⟩
              have spot : cap ≠ 0 → a = ⟨a.block, a.off, none⟩ ∧ a.block < w.heap.size := fun hne => by
                obtain ⟨c, h1⟩ := first hne
                obtain ⟨_, h4, h5⟩ := World.cells?_some h1
                have h6 := h5 0 (by omega)
                have hc0 : c[0]? = some c[0] := List.getElem?_eq_getElem (by omega)
                rw [hc0, Nat.zero_mul] at h6
                have h7 : w.cell? a = some c[0] := by simpa [Addr.add] using h6
                refine ⟨spot_none h7, ?_⟩
                rw [spot_none h7] at h7
                exact lt_of_cell h7
              refine ⟨[.recs (l.length + 1) len fun i j => (F i).getD j (.v undef)], rfl, ?_, ?_, trivial⟩
              · simp only [fitsL, fits, and_true]
                exact ⟨len, _, rfl, hN, fun i hi => by have := (hF i hi).1; simpa only [fitsL] using this⟩
              · by_cases h0 : cap = 0
                · exact D.holds_recs.2 ⟨⟨some a, len, cap⟩, rfl, .inl h0, fun h => absurd h (by show ¬ len ≠ 0; omega), rfl, hl, fun i hi => by omega⟩
                · obtain ⟨hs1, hs2⟩ := spot h0
                  generalize hbb : a.block = b at *
                  generalize hoo : a.off = o at *
                  subst hs1
                  refine D.holds_recs.2 ⟨⟨some ⟨b, o, none⟩, len, cap⟩, rfl, .inr rfl, fun _ => ⟨trivial, hs2⟩, rfl, hl, fun i hi j hj => ?_⟩
                  obtain ⟨_, c, h1, h2, h3⟩ := hF i hi
                  obtain ⟨c', e1, e2⟩ := DL.getD h2 j (by omega)
                  obtain ⟨_, h4, h5⟩ := World.cells?_some h1
                  refine ⟨c', ?_, e2⟩
                  have := h5 j (by omega)
                  rw [add_spot, add_spot, e1, hc] at this
                  rw [Nat.add_assoc] at this
                  exact this
        · cases hs
    · rename_i fs ht
      split at hs
      · rename_i l hfl
        cases hc : Nat.beq (P.cellsOf t) l.length with
        | false => rw [hc] at hs; cases hs
        | true =>
          rw [hc] at hs
          cases hs
          obtain ⟨xs, n, rfl, rfl, h1, h2, h3⟩ := DataW.trod_struct ht hf
          have := flds_open (cs := cs) (N := N) (fun t c x shs a1 a2 a3 => deep m t n c x shs N a1 a2 a3) fs.toList 0 _ xs hfl (by simpa using h2) (fun i fl hi => h3 i fl (by simpa using hi)) (fun y hy => by
            rcases hb with hb | hb
            · left
              simp only [uptoBulk] at hb
              have : uptoBulk y.1 ≤ uptoBulkAll (xs.map (·.1)) := bulk_mem (List.mem_map_of_mem hy)
              omega
            · exact .inr hb)
          rw [List.drop_zero, List.take_of_length_le (by rw [h1, Nat.eq_of_beq_eq_true hc]; exact Nat.le_refl _)] at this
          exact this
      · cases hs
    · cases hs
end
end Go.Z
