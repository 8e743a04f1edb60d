/- Part 8 of what the closing text rests on. -/
import Derived.Test.YtonfaeenoifomaaKG7
import Derived.Test.YtonfaeenoifomaaRows
/- Bytes and numbers: contracts. -/
namespace Go.ZR
open Go.Z
def vi : D → Int
  | .v (.int _ n) => n
  | _ => 0
def vb : D → Bool
  | .v (.bool b) => b
  | _ => false
def vl : D → List Int
  | .ints _ l => l
  | _ => []
end Go.ZR
namespace Go.ZM
open Go.Z Go.ZR
def sm (n : Nat) : Prop := n ≤ 1099511627776
def okI (n : Int) : Prop := -2199023255552 ≤ n ∧ n ≤ 2199023255552
/-- Some bytes; or why there are none. -/
def partF (b : List Int) (i n : Int) : List Int × Int :=
  if i < 0 ∨ n < 0 then ([], 1) else if (b.length : Int) < i ∨ (b.length : Int) - i < n then ([], 3) else ((b.drop i.toNat).take n.toNat, 0)
def getF (b : List Int) (i : Int) (k : Nat) : Int × Int := (valF (partF b i k).1, (partF b i k).2)
theorem part_ok {b : List Int} (h : okB b) (i n : Int) : okB (partF b i n).1 := by
  unfold partF
  split
  · exact fun x hx => by cases hx
  split
  · exact fun x hx => by cases hx
  · exact okB_take (okB_drop h _) _
theorem part_len {b : List Int} {i : Int} {k : Nat} : (partF b i k).1.length ≤ k := by
  unfold partF
  split
  · exact Nat.zero_le _
  split
  · exact Nat.zero_le _
  · rw [Int.toNat_natCast]; exact List.length_take_le _ _
end Go.ZM
namespace Go.ZR
open Go.Z Go.ZM
def iO (k : IntKind) (n : Int) : O := .d (.v (.int k n))
def bO (b : Bool) : O := .d (.v (.bool b))
def sO (s : ByteArray) : O := .d (.v (.string s))
def bsO (l : List Int) : O := .d (.ints .u8 l)
def bsN (l : List Int) : O := .own 5 (.ints .u8 l)
def dO : O → D
  | .d x => x
  | _ => .v (.bool false)
def at_ (a : List O) (i : Nat) : O := a.getD i .any
/-- A contract: what is read is lent; results that are new. -/
def nC (n : Nat) (quiet : Bool) (pre : List O → Prop) (res : List O → List O) : Ctr where
  own := []
  pre := pre
  res := res
  upd := fun _ => List.replicate n .any
  ro := false
  quiet := quiet
def cloneC : Ctr := nC 1 false (fun a => ∃ l, a = [bsO l] ∧ sm l.length) fun a => [bsN (vl (dO (at_ a 0)))]
def padC : Ctr := nC 1 true (fun a => ∃ n : Nat, a = [iO .i64 n] ∧ n ≤ 2199023255552) fun a => [iO .i64 (padN (vi (dO (at_ a 0))).toNat : Nat)]
def paddedC : Ctr := nC 1 false (fun a => ∃ l, a = [bsO l] ∧ sm l.length) fun a => [bsN (padF (vl (dO (at_ a 0))))]
def putC : Ctr := nC 3 false (fun a => ∃ (b : List Int) (n : Int) (k : Nat), a = [bsO b, iO .u64 n, iO .i64 k] ∧ sm b.length ∧ 1 ≤ k ∧ k ≤ 8) fun a =>
  [bsN (vl (dO (at_ a 0)) ++ be (vi (dO (at_ a 1))) (vi (dO (at_ a 2))).toNat)]
def partA (a : List O) : List Int × Int := partF (vl (dO (at_ a 0))) (vi (dO (at_ a 1))) (vi (dO (at_ a 2)))
def partC : Ctr := nC 3 false (fun a => ∃ (b : List Int) (i n : Int), a = [bsO b, iO .i64 i, iO .i64 n] ∧ sm b.length ∧ okI i ∧ okI n) fun a => [bsN (partA a).1, iO .i64 (partA a).2]
def getA (a : List O) : Int × Int := getF (vl (dO (at_ a 0))) (vi (dO (at_ a 1))) (vi (dO (at_ a 2))).toNat
def getC (m : Nat) : Ctr := nC 3 false (fun a => ∃ (b : List Int) (i : Int) (k : Nat), a = [bsO b, iO .i64 i, iO .i64 k] ∧ sm b.length ∧ okB b ∧ okI i ∧ 1 ≤ k ∧ k ≤ m) fun a => [iO .u64 (getA a).1, iO .i64 (getA a).2]
def numC : Ctr := nC 3 false (fun a => ∃ (b : List Int) (i : Int) (k : Nat), a = [bsO b, iO .i64 i, iO .i64 k] ∧ sm b.length ∧ okB b ∧ okI i ∧ 1 ≤ k ∧ k ≤ 7) fun a => [iO .i64 (getA a).1]

def putAnn (b : List Int) (n : Int) (k : Nat) : LoopAnn where
  γ := Nat
  pre := fun j => j ≤ k
  μ := fun j => k - j
  items := fun j => [(19, .c (iO .i64 (j : Int))), (7, .c (bsN (b ++ (be n k).take j)))]
def putAnn' (b : List Int) (n : Int) (k : Nat) : LoopAnn where
  γ := Nat
  pre := fun j => j ≤ k
  μ := fun j => k - j
  items := fun j => [(8, .c (iO .i64 ((k : Int) - 1 - (j : Int)))), (7, .c (bsN (b ++ (be n k).take j)))]
def zAnn (b : List Int) : LoopAnn where
  γ := Nat
  pre := fun j => j ≤ padN b.length
  μ := fun j => padN b.length - j
  items := fun j => [(3, .c (bsN (b ++ List.replicate j 0)))]
def valAnn (s t : Nat) (p : List Int) : LoopAnn where
  γ := Nat
  pre := fun j => j ≤ p.length
  μ := fun j => p.length - j
  items := fun j => [(s, .c (iO .i64 (j : Int))), (t, .c (iO .u64 (valF (p.take j))))]
def c0 : List (Nat × Ctr) := []
def c1 : List (Nat × Ctr) := [(54, cloneC), (67, padC)]
def c2 : List (Nat × Ctr) := [(57, partC), (74, partC)]
def c3 : List (Nat × Ctr) := [(66, getC 8)]
theorem c0_ok {P : Program} : COk P (ctrs c0) := cok_nil
end Go.ZR

/- Bytes and numbers: walks -/
namespace Go.ZR
open Go.Proofs
open Go.Z Go.ZM Go.RowKit
set_option maxRecDepth 100000
theorem bytes5 : Try.prog.types[(5 : Nat)].bytes = 1 := by kernel_rfl
theorem part_get {b : List Int} {i n : Int} (h0 : 0 ≤ i) (h1 : 0 ≤ n) (h2 : i ≤ b.length) (h3 : n ≤ b.length - i) : partF b i n = ((b.drop i.toNat).take n.toNat, 0) := by
  unfold partF; rw [if_neg (by omega), if_neg (by omega)]
theorem part_err (b : List Int) (i n : Int) : (partF b i n).2 ≠ 0 → (partF b i n).1 = [] := by
  unfold partF
  split
  · intro _; rfl
  split
  · intro _; rfl
  · intro h; exact absurd rfl h
theorem be_step {b : List Int} {n : Int} {g k : Nat} (hg : g < k) : b ++ (be n k).take g ++ [(n / 256 ^ (k - 1 - g)) % 256] = b ++ (be n k).take (g + 1) := by
  rw [take_succ_getD (by rw [be_len]; exact hg), be_get n hg, List.append_assoc]
theorem val_small {l : List Int} (h : okB l) (hl : l.length ≤ 7) : 0 ≤ valF l ∧ valF l < 256 ^ 7 := by
  have h1 := val_lt h
  have h2 : (256 : Int) ^ l.length ≤ 256 ^ 7 := by
    have : ∀ k : Nat, k ≤ 7 → (256 : Int) ^ k ≤ 256 ^ 7 := by decide
    exact this _ hl
  exact ⟨val_nonneg h, by omega⟩
noncomputable def code54 : Code := match Try.f54.body with | some c => c | none => .skip
set_option maxHeartbeats 4000000 in
theorem vc54 : ∀ (l : List Int), sm l.length → ∀ (t : Bool), (t = true → l.length = (0 : Nat)) → sw t (vl (D.ints IntKind.u8 l) = [] ∧ (true && true) = true) (True ∧ ((0 : Nat) + l.length) * Try.prog.types[(5 : Nat)].bytes ≤ (140737488355328 : Nat) ∧
  [] ++ l = vl (D.ints IntKind.u8 l) ∧ (!false && true && true) = true) := by
  simp only [↓sw_iff, true_and, and_true, Bool.and_self, Bool.not_false, vl, Nat.zero_add, List.nil_append, Nat.mul_one, bytes5]
  intro l h t ht
  unfold sm at h
  exact ⟨fun e => by have := ht e; exact List.length_eq_zero_iff.1 this, fun _ => by omega⟩
set_option maxRecDepth 100000 in
theorem ok54 : FnIs Try.prog 54 cloneC := by
  refine fnIs (C := (ctrs c0)) (by kernel_rfl) c0_ok Try.func54 (code := code54) (by kernel_rfl) (by kernel_rfl) ?_
  rintro a ⟨l, rfl, h⟩
  exact ⟨anns [], kcast (vc54 l h) (by kernel_rfl)⟩

noncomputable def code67 : Code := match Try.f67.body with | some c => c | none => .skip
set_option maxHeartbeats 4000000 in
theorem vc67 : ∀ (n : Nat), n ≤ (2199023255552 : Nat) → True ∧ True ∧ bits BinOp.and IntKind.i64 (IntKind.i64.wrap ((0 : Int) - (↑n : Int))) (3 : Int) = (↑(padN (vi (D.v (Value.int IntKind.i64 (↑n : Int)))).toNat) : Int) ∧
  (true && true) = true := by
  simp only [true_and, and_true, Bool.and_self, Int.toNat_natCast, vi]
  intro n h
  exact and_three
set_option maxRecDepth 100000 in
theorem ok67 : FnIs Try.prog 67 padC := by
  refine fnIs (C := (ctrs c0)) (by kernel_rfl) c0_ok Try.func67 (code := code67) (by kernel_rfl) (by kernel_rfl) ?_
  rintro a ⟨n, rfl, h⟩
  exact ⟨anns [], kcast (vc67 n h) (by kernel_rfl)⟩

theorem c1_ok : COk Try.prog (ctrs c1) := cok_cons ok54 (cok_cons ok67 cok_nil)

noncomputable def code51 : Code := match Try.f51.body with | some c => c | none => .skip
set_option maxHeartbeats 4000000 in
theorem vc51 : ∀ (n : Nat), n ≤ (2199023255552 : Nat) → True ∧ (4 : Int) ≠ (0 : Int) ∧ True ∧ sw (decide ((↑n : Int).tmod (4 : Int) = (0 : Int))) ((0 : Int) = (↑(padN (vi (D.v (Value.int IntKind.i64 (↑n : Int)))).toNat) : Int) ∧
  (true && true) = true) ((4 : Int) ≠ (0 : Int) ∧ True ∧ IntKind.i64.wrap ((4 : Int) - (↑n : Int).tmod (4 : Int)) = (↑(padN (vi (D.v (Value.int IntKind.i64 (↑n : Int)))).toNat) : Int) ∧
  (true && true) = true) := by
  simp only [↓sw_iff, ↓decide_eq_true_eq, ↓decide_eq_false_iff_not, true_and, and_true, Bool.and_self, Int.toNat_natCast, vi]
  intro n h
  have e : (n : Int).tmod 4 = ((n % 4 : Nat) : Int) := rfl
  rw [e]
  refine ⟨by decide, fun h => ?_, fun h => ⟨by decide, ?_⟩⟩
  · have := h
    unfold padN; omega
  · have := h
    rw [wrap_i64_id (by omega) (by omega)]
    unfold padN; omega
set_option maxRecDepth 100000 in
theorem ok51 : FnIs Try.prog 51 padC := by
  refine fnIs (C := (ctrs c0)) (by kernel_rfl) c0_ok Try.func51 (code := code51) (by kernel_rfl) (by kernel_rfl) ?_
  rintro a ⟨n, rfl, h⟩
  exact ⟨anns [] [1], kcast (vc51 n h) (by kernel_rfl)⟩

noncomputable def code46 : Code := match Try.f46.body with | some c => c | none => .skip
set_option maxHeartbeats 4000000 in
theorem vc46 : ∀ (l : List Int), sm l.length → (∃ (l_1 : List Int), [O.d (D.ints IntKind.u8 l)] = [O.d (D.ints IntKind.u8 l_1)] ∧ sm l_1.length) ∧ (∃ (n : Nat), [O.d (D.v (Value.int IntKind.i64 (↑l.length : Int)))] = [O.d (D.v (Value.int IntKind.i64 (↑n : Int)))] ∧
  n ≤ (2199023255552 : Nat)) ∧ ((0 : Int) ≤ (↑(padN (vi (D.v (Value.int IntKind.i64 (↑l.length : Int)))).toNat) : Int) ∧ (↑(padN (vi (D.v (Value.int IntKind.i64 (↑l.length : Int)))).toNat) : Int) ≤ (9223372036854775807 : Int) ∧
  (↑(padN (vi (D.v (Value.int IntKind.i64 (↑l.length : Int)))).toNat) : Int).toNat * Try.prog.types[(5 : Nat)].bytes ≤ (281474976710656 : Nat) ∧ IntKind.u8 = IntKind.u8) ∧
  ((vl (D.ints IntKind.u8 l)).length + (List.replicate (↑(padN (vi (D.v (Value.int IntKind.i64 (↑l.length : Int)))).toNat) : Int).toNat (0 : Int)).length) * Try.prog.types[(5 : Nat)].bytes ≤ (140737488355328 : Nat) ∧
  vl (D.ints IntKind.u8 l) ++ List.replicate (↑(padN (vi (D.v (Value.int IntKind.i64 (↑l.length : Int)))).toNat) : Int).toNat (0 : Int) = padF (vl (D.ints IntKind.u8 l)) ∧
  (!false && true && true) = true := by
  simp only [and_true, Bool.and_self, Bool.not_false, Int.toNat_natCast, vi, vl, Nat.mul_one, bytes5, List.length_replicate]
  intro l h
  have hp := padN_le l.length
  refine ⟨⟨l, rfl, h⟩, ⟨l.length, rfl, ?_⟩, ⟨by omega, by omega, by omega⟩, ?_, rfl⟩ <;> unfold sm at h <;> omega
set_option maxRecDepth 100000 in
theorem ok46 : FnIs Try.prog 46 paddedC := by
  refine fnIs (C := (ctrs c1)) (by kernel_rfl) c1_ok Try.func46 (code := code46) (by kernel_rfl) (by kernel_rfl) ?_
  rintro a ⟨l, rfl, h⟩
  exact ⟨anns [], kcast (vc46 l h) (by kernel_rfl)⟩

noncomputable def code48 : Code := match Try.f48.body with | some c => c | none => .skip
set_option maxHeartbeats 4000000 in
theorem vc48 : ∀ (l : List Int), sm l.length → True ∧ ((0 : Nat) + l.length) * Try.prog.types[(5 : Nat)].bytes ≤ (140737488355328 : Nat) ∧ ∃ (g0 : Nat), g0 ≤ padN l.length ∧
  [] ++ l = l ++ List.replicate g0 (0 : Int) ∧ (!false && true && true) = true ∧ ∀ (g : Nat), g ≤ padN l.length → (4 : Int) ≠ (0 : Int) ∧ True ∧ sw (!decide ((↑(l ++ List.replicate g (0 : Int)).length : Int).tmod (4 : Int) = (0 : Int))) (True ∧
  ((l ++ List.replicate g (0 : Int)).length + (1 : Nat)) * Try.prog.types[(5 : Nat)].bytes ≤ (140737488355328 : Nat) ∧ ∃ (g' : Nat), g' ≤ padN l.length ∧
  padN l.length - g' < padN l.length - g ∧ (l ++ List.replicate g (0 : Int) ++ [(0 : Int)] = l ++ List.replicate g' (0 : Int) ∧ (!false && true && true && ((Nat.ble (3 : Nat) (5 : Nat) || (Nat.beq (2 : Nat) (5 : Nat) || false)) && true)) = true) ∧
  (some (SV.a (2 : Nat)) = some (SV.a (2 : Nat)) ∧ some (SV.a (0 : Nat)) = some (SV.a (0 : Nat)) ∧ some (SV.a (1 : Nat)) = some (SV.a (1 : Nat)) ∧ some SV.nil = some SV.nil ∧
  some (SV.a (0 : Nat)) = some (SV.a (0 : Nat)) ∧ True) ∧ some R.dead = some R.dead ∧ some (R.ro (D.ints IntKind.u8 l)) = some (R.ro (D.ints IntKind.u8 l)) ∧
  True) (l ++ List.replicate g (0 : Int) = padF (vl (D.ints IntKind.u8 l)) ∧ (!false && true && true) = true) := by
  simp only [↓sw_iff, ↓decide_eq_true_eq, ↓decide_eq_false_iff_not, ↓Bool.not_eq_true', ↓Bool.not_eq_false', true_and, and_true, Bool.and_self, Bool.not_false, Bool.or_false, Nat.ble, Nat.beq, vl, Nat.zero_add, List.nil_append, List.length_append, Nat.mul_one, bytes5, List.length_replicate]
  intro l h
  unfold sm at h
  refine ⟨by omega, 0, Nat.zero_le _, by simp, ?_⟩
  intro g hg
  have e : ((l.length + g : Nat) : Int).tmod 4 = (((l.length + g) % 4 : Nat) : Int) := rfl
  rw [e]
  have hp := padN_le l.length
  refine ⟨by decide, fun ht => ⟨by omega, g + 1, ?_, ?_, ?_⟩, fun ht => ?_⟩
  · have : ¬ (((l.length + g) % 4 : Nat) : Int) = 0 := ht
    unfold padN at hg ⊢; omega
  · have : ¬ (((l.length + g) % 4 : Nat) : Int) = 0 := ht
    unfold padN at hg ⊢; omega
  · rw [List.replicate_succ', List.append_assoc]
  · have : (((l.length + g) % 4 : Nat) : Int) = 0 := ht
    have : g = padN l.length := by unfold padN at hg ⊢; omega
    rw [this]; rfl
set_option maxRecDepth 100000 in
theorem ok48 : FnIs Try.prog 48 paddedC := by
  refine fnIs (C := (ctrs c0)) (by kernel_rfl) c0_ok Try.func48 (code := code48) (by kernel_rfl) (by kernel_rfl) ?_
  rintro a ⟨l, rfl, h⟩
  exact ⟨anns [(2, zAnn l)], kcast (vc48 l h) (by kernel_rfl)⟩

noncomputable def code45 : Code := match Try.f45.body with | some c => c | none => .skip
set_option maxHeartbeats 4000000 in
theorem vc45 : ∀ (b : List Int) (n : Int) (k : Nat), sm b.length → (1 : Nat) ≤ k → k ≤ (8 : Nat) → (∃ (l : List Int), [O.d (D.ints IntKind.u8 b)] = [O.d (D.ints IntKind.u8 l)] ∧
  sm l.length) ∧ True ∧ sw (decide ((↑k : Int) < (1 : Int))) (vl (D.ints IntKind.u8 b) = vl (D.ints IntKind.u8 b) ++ be (vi (D.v (Value.int IntKind.u64 n))) (vi (D.v (Value.int IntKind.i64 (↑k : Int)))).toNat ∧
  (!false && true && true) = true) (True ∧ sw (decide ((8 : Int) < (↑k : Int))) (vl (D.ints IntKind.u8 b) = vl (D.ints IntKind.u8 b) ++ be (vi (D.v (Value.int IntKind.u64 n))) (vi (D.v (Value.int IntKind.i64 (↑k : Int)))).toNat ∧
  (!false && true && true) = true) (∃ (g0 : Nat), g0 ≤ k ∧ (0 : Int) = (↑g0 : Int) ∧ vl (D.ints IntKind.u8 b) = b ++ List.take g0 (be n k) ∧ (!false && true && true) = true ∧
  ∀ (g : Nat), g ≤ k → True ∧ sw (decide ((↑g : Int) < (↑k : Int))) (True ∧ True ∧ True ∧ (0 : Int) ≤ IntKind.i64.wrap ((8 : Int) * IntKind.i64.wrap (IntKind.i64.wrap ((↑k : Int) - (1 : Int)) - (↑g : Int))) ∧
  True ∧ ((b ++ List.take g (be n k)).length + (1 : Nat)) * Try.prog.types[(5 : Nat)].bytes ≤ (140737488355328 : Nat) ∧ True ∧ ∃ (g' : Nat), g' ≤ k ∧ k - g' < k - g ∧
  (IntKind.i64.wrap ((↑g : Int) + (1 : Int)) = (↑g' : Int) ∧ b ++ List.take g (be n k) ++ [IntKind.u8.wrap (n.fdiv ((2 : Int) ^ min (IntKind.i64.wrap ((8 : Int) * IntKind.i64.wrap (IntKind.i64.wrap ((↑k : Int) - (1 : Int)) - (↑g : Int)))).toNat IntKind.u64.bits))] = b ++ List.take g' (be n k) ∧
  (!false && true && true && ((Nat.ble (2 : Nat) (4 : Nat) || (Nat.beq (1 : Nat) (4 : Nat) || false)) && true)) = true) ∧ (some (SV.c (Value.int IntKind.i64 (↑k : Int))) = some (SV.c (Value.int IntKind.i64 (↑k : Int))) ∧
  some (SV.c (Value.bool (decide ((8 : Int) < (↑k : Int))))) = some (SV.c (Value.bool (decide ((8 : Int) < (↑k : Int))))) ∧ some (SV.c (Value.bool (decide ((8 : Int) < (↑k : Int))))) = some (SV.c (Value.bool (decide ((8 : Int) < (↑k : Int))))) ∧
  some (SV.c (Value.int IntKind.i64 (↑k : Int))) = some (SV.c (Value.int IntKind.i64 (↑k : Int))) ∧ some (SV.b false) = some (SV.b false) ∧ some (SV.c (Value.bool (decide ((↑k : Int) < (1 : Int))))) = some (SV.c (Value.bool (decide ((↑k : Int) < (1 : Int))))) ∧
  some (SV.c (Value.int IntKind.i64 (↑k : Int))) = some (SV.c (Value.int IntKind.i64 (↑k : Int))) ∧ some (SV.a (1 : Nat)) = some (SV.a (1 : Nat)) ∧ some (SV.a (0 : Nat)) = some (SV.a (0 : Nat)) ∧
  some SV.nil = some SV.nil ∧ some (SV.a (0 : Nat)) = some (SV.a (0 : Nat)) ∧ some (SV.c (Value.int IntKind.u64 n)) = some (SV.c (Value.int IntKind.u64 n)) ∧
  some (SV.c (Value.int IntKind.i64 (↑k : Int))) = some (SV.c (Value.int IntKind.i64 (↑k : Int))) ∧ True) ∧ some (R.ro (D.ints IntKind.u8 b)) = some (R.ro (D.ints IntKind.u8 b)) ∧
  True) (b ++ List.take g (be n k) = vl (D.ints IntKind.u8 b) ++ be (vi (D.v (Value.int IntKind.u64 n))) (vi (D.v (Value.int IntKind.i64 (↑k : Int)))).toNat ∧
  (!false && true && true) = true))) := by
  simp only [↓sw_iff, ↓decide_eq_true_eq, ↓decide_eq_false_iff_not, true_and, and_true, Bool.and_self, Bool.not_false, Bool.or_false, Nat.ble, Nat.beq, Int.toNat_natCast, vi, vl, List.length_append, Nat.mul_one, bytes5]
  intro b n k h h1 h2
  refine ⟨⟨b, rfl, h⟩, fun e => absurd e (by omega), fun _ => ⟨fun e => absurd e (by omega), fun _ => ⟨0, Nat.zero_le _, rfl, by simp, ?_⟩⟩⟩
  unfold sm at h
  intro g hg
  refine ⟨fun ht => ?_, fun ht => ?_⟩
  · have hlt : g < k := by have := ht; omega
    have e : IntKind.i64.wrap (8 * IntKind.i64.wrap (IntKind.i64.wrap ((k : Int) - 1) - (g : Int))) = ((8 * (k - 1 - g) : Nat) : Int) := by
      rw [wrap_i64_id (n := (k : Int) - 1) (by omega) (by omega), wrap_i64_id (n := (k : Int) - 1 - g) (by omega) (by omega), wrap_i64_id (by omega) (by omega)]; omega
    have hl : ((be n k).take g).length ≤ g := List.length_take_le _ _
    rw [e]
    refine ⟨by omega, by omega, g + 1, hlt, by omega, by rw [wrap_i64_id (by omega) (by omega)]; rfl, ?_⟩
    rw [shr_byte _ (by omega), be_step hlt]
  · have : k ≤ g := by have := ht; omega
    rw [List.take_of_length_le (by rw [be_len]; exact this)]
set_option maxRecDepth 100000 in
theorem ok45 : FnIs Try.prog 45 putC := by
  refine fnIs (C := (ctrs c1)) (by kernel_rfl) c1_ok Try.func45 (code := code45) (by kernel_rfl) (by kernel_rfl) ?_
  rintro a ⟨b, n, k, rfl, h, h1, h2⟩
  exact ⟨anns [(5, putAnn b n k)] [2], kcast (vc45 b n k h h1 h2) (by kernel_rfl)⟩

noncomputable def code47 : Code := match Try.f47.body with | some c => c | none => .skip
set_option maxHeartbeats 4000000 in
theorem vc47 : ∀ (b : List Int) (n : Int) (k : Nat), sm b.length → (1 : Nat) ≤ k → k ≤ (8 : Nat) → True ∧ ((0 : Nat) + b.length) * Try.prog.types[(5 : Nat)].bytes ≤ (140737488355328 : Nat) ∧
  True ∧ sw (decide ((↑k : Int) < (1 : Int))) ([] ++ b = vl (D.ints IntKind.u8 b) ++ be (vi (D.v (Value.int IntKind.u64 n))) (vi (D.v (Value.int IntKind.i64 (↑k : Int)))).toNat ∧
  (!false && true && true) = true) (True ∧ sw (decide ((8 : Int) < (↑k : Int))) ([] ++ b = vl (D.ints IntKind.u8 b) ++ be (vi (D.v (Value.int IntKind.u64 n))) (vi (D.v (Value.int IntKind.i64 (↑k : Int)))).toNat ∧
  (!false && true && true) = true) (True ∧ ∃ (g0 : Nat), g0 ≤ k ∧ IntKind.i64.wrap ((↑k : Int) - (1 : Int)) = (↑k : Int) - (1 : Int) - (↑g0 : Int) ∧ [] ++ b = b ++ List.take g0 (be n k) ∧
  (!false && true && true) = true ∧ ∀ (g : Nat), g ≤ k → True ∧ sw (decide ((0 : Int) ≤ (↑k : Int) - (1 : Int) - (↑g : Int))) (True ∧ (0 : Int) ≤ IntKind.u64.wrap (IntKind.i64.wrap ((8 : Int) * ((↑k : Int) - (1 : Int) - (↑g : Int)))) ∧
  True ∧ ((b ++ List.take g (be n k)).length + (1 : Nat)) * Try.prog.types[(5 : Nat)].bytes ≤ (140737488355328 : Nat) ∧ True ∧ ∃ (g' : Nat), g' ≤ k ∧ k - g' < k - g ∧
  (IntKind.i64.wrap ((↑k : Int) - (1 : Int) - (↑g : Int) - (1 : Int)) = (↑k : Int) - (1 : Int) - (↑g' : Int) ∧ b ++ List.take g (be n k) ++ [IntKind.u8.wrap (n.fdiv ((2 : Int) ^ min (IntKind.u64.wrap (IntKind.i64.wrap ((8 : Int) * ((↑k : Int) - (1 : Int) - (↑g : Int))))).toNat IntKind.u64.bits))] = b ++ List.take g' (be n k) ∧
  (!false && true && true && ((Nat.ble (3 : Nat) (5 : Nat) || (Nat.beq (2 : Nat) (5 : Nat) || false)) && true)) = true) ∧ (some (SV.c (Value.int IntKind.i64 (IntKind.i64.wrap ((↑k : Int) - (1 : Int))))) = some (SV.c (Value.int IntKind.i64 (IntKind.i64.wrap ((↑k : Int) - (1 : Int))))) ∧
  some (SV.c (Value.int IntKind.i64 (↑k : Int))) = some (SV.c (Value.int IntKind.i64 (↑k : Int))) ∧ some (SV.c (Value.bool (decide ((8 : Int) < (↑k : Int))))) = some (SV.c (Value.bool (decide ((8 : Int) < (↑k : Int))))) ∧
  some (SV.c (Value.bool (decide ((8 : Int) < (↑k : Int))))) = some (SV.c (Value.bool (decide ((8 : Int) < (↑k : Int))))) ∧ some (SV.c (Value.int IntKind.i64 (↑k : Int))) = some (SV.c (Value.int IntKind.i64 (↑k : Int))) ∧
  some (SV.b false) = some (SV.b false) ∧ some (SV.c (Value.bool (decide ((↑k : Int) < (1 : Int))))) = some (SV.c (Value.bool (decide ((↑k : Int) < (1 : Int))))) ∧
  some (SV.c (Value.int IntKind.i64 (↑k : Int))) = some (SV.c (Value.int IntKind.i64 (↑k : Int))) ∧ some (SV.a (2 : Nat)) = some (SV.a (2 : Nat)) ∧ some (SV.a (0 : Nat)) = some (SV.a (0 : Nat)) ∧
  some (SV.a (1 : Nat)) = some (SV.a (1 : Nat)) ∧ some SV.nil = some SV.nil ∧ some (SV.a (0 : Nat)) = some (SV.a (0 : Nat)) ∧ some (SV.c (Value.int IntKind.u64 n)) = some (SV.c (Value.int IntKind.u64 n)) ∧
  some (SV.c (Value.int IntKind.i64 (↑k : Int))) = some (SV.c (Value.int IntKind.i64 (↑k : Int))) ∧ True) ∧ some R.dead = some R.dead ∧ some (R.ro (D.ints IntKind.u8 b)) = some (R.ro (D.ints IntKind.u8 b)) ∧
  True) (b ++ List.take g (be n k) = vl (D.ints IntKind.u8 b) ++ be (vi (D.v (Value.int IntKind.u64 n))) (vi (D.v (Value.int IntKind.i64 (↑k : Int)))).toNat ∧
  (!false && true && true) = true))) := by
  simp only [↓sw_iff, ↓decide_eq_true_eq, ↓decide_eq_false_iff_not, true_and, and_true, Bool.and_self, Bool.not_false, Bool.or_false, Nat.ble, Nat.beq, Int.toNat_natCast, vi, vl, Nat.zero_add, List.nil_append, List.length_append, Nat.mul_one, bytes5]
  intro b n k h h1 h2
  unfold sm at h
  refine ⟨by omega, fun e => absurd e (by omega), fun _ => ⟨fun e => absurd e (by omega), fun _ => ⟨0, Nat.zero_le _, by rw [wrap_i64_id (by omega) (by omega)]; omega, by simp, ?_⟩⟩⟩
  intro g hg
  refine ⟨fun ht => ?_, fun ht => ?_⟩
  · have hlt : g < k := by have := ht; omega
    have e : IntKind.u64.wrap (IntKind.i64.wrap (8 * ((k : Int) - 1 - (g : Int)))) = ((8 * (k - 1 - g) : Nat) : Int) := by
      rw [wrap_i64_id (by omega) (by omega), IntKind.wrap_u64]; omega
    have hl : ((be n k).take g).length ≤ g := List.length_take_le _ _
    rw [e]
    refine ⟨by omega, by omega, g + 1, hlt, by omega, by rw [wrap_i64_id (by omega) (by omega)]; omega, ?_⟩
    rw [shr_byte _ (by omega), be_step hlt]
  · have : k ≤ g := by have := ht; omega
    rw [List.take_of_length_le (by rw [be_len]; exact this)]
set_option maxRecDepth 100000 in
theorem ok47 : FnIs Try.prog 47 putC := by
  refine fnIs (C := (ctrs c0)) (by kernel_rfl) c0_ok Try.func47 (code := code47) (by kernel_rfl) (by kernel_rfl) ?_
  rintro a ⟨b, n, k, rfl, h, h1, h2⟩
  exact ⟨anns [(5, putAnn' b n k)] [2], kcast (vc47 b n k h h1 h2) (by kernel_rfl)⟩

noncomputable def code57 : Code := match Try.f57.body with | some c => c | none => .skip
set_option maxHeartbeats 4000000 in
theorem vc57 : ∀ (b : List Int) (i n : Int), sm b.length → okI i → okI n → True ∧ sw (decide (i < (0 : Int))) ((partF (vl (D.ints IntKind.u8 b)) (vi (D.v (Value.int IntKind.i64 i))) (vi (D.v (Value.int IntKind.i64 n)))).fst = [] ∧
  (1 : Int) = (partF (vl (D.ints IntKind.u8 b)) (vi (D.v (Value.int IntKind.i64 i))) (vi (D.v (Value.int IntKind.i64 n)))).snd ∧ (true && true) = true) (True ∧
  sw (decide (n < (0 : Int))) ((partF (vl (D.ints IntKind.u8 b)) (vi (D.v (Value.int IntKind.i64 i))) (vi (D.v (Value.int IntKind.i64 n)))).fst = [] ∧ (1 : Int) = (partF (vl (D.ints IntKind.u8 b)) (vi (D.v (Value.int IntKind.i64 i))) (vi (D.v (Value.int IntKind.i64 n)))).snd ∧
  (true && true) = true) (True ∧ sw (decide ((↑b.length : Int) < i)) ((partF (vl (D.ints IntKind.u8 b)) (vi (D.v (Value.int IntKind.i64 i))) (vi (D.v (Value.int IntKind.i64 n)))).fst = [] ∧
  (3 : Int) = (partF (vl (D.ints IntKind.u8 b)) (vi (D.v (Value.int IntKind.i64 i))) (vi (D.v (Value.int IntKind.i64 n)))).snd ∧ (true && true) = true) (True ∧
  True ∧ sw (decide (IntKind.i64.wrap ((↑b.length : Int) - i) < n)) ((partF (vl (D.ints IntKind.u8 b)) (vi (D.v (Value.int IntKind.i64 i))) (vi (D.v (Value.int IntKind.i64 n)))).fst = [] ∧
  (3 : Int) = (partF (vl (D.ints IntKind.u8 b)) (vi (D.v (Value.int IntKind.i64 i))) (vi (D.v (Value.int IntKind.i64 n)))).snd ∧ (true && true) = true) (True ∧
  ((0 : Int) ≤ i ∧ i ≤ IntKind.i64.wrap (i + n) ∧ IntKind.i64.wrap (i + n) ≤ (↑b.length : Int)) ∧ (∃ (l : List Int), [O.d (D.ints IntKind.u8 (List.take ((IntKind.i64.wrap (i + n)).toNat - i.toNat) (List.drop i.toNat b)))] = [O.d (D.ints IntKind.u8 l)] ∧
  sm l.length) ∧ vl (D.ints IntKind.u8 (List.take ((IntKind.i64.wrap (i + n)).toNat - i.toNat) (List.drop i.toNat b))) = (partF (vl (D.ints IntKind.u8 b)) (vi (D.v (Value.int IntKind.i64 i))) (vi (D.v (Value.int IntKind.i64 n)))).fst ∧
  (0 : Int) = (partF (vl (D.ints IntKind.u8 b)) (vi (D.v (Value.int IntKind.i64 i))) (vi (D.v (Value.int IntKind.i64 n)))).snd ∧ (!false && true && true) = true)))) := by
  simp only [↓sw_iff, ↓decide_eq_true_eq, ↓decide_eq_false_iff_not, true_and, and_true, Bool.and_self, Bool.not_false, vi, vl]
  intro b i n h h1 h2
  unfold sm at h
  unfold okI at h1 h2
  have e0 : IntKind.i64.wrap ((b.length : Int) - i) = b.length - i := wrap_i64_id (by omega) (by omega)
  have e1 : IntKind.i64.wrap (i + n) = i + n := wrap_i64_id (by omega) (by omega)
  rw [e0, e1]
  have key : partF b i n = if i < 0 ∨ n < 0 then ([], 1) else if (b.length : Int) < i ∨ (b.length : Int) - i < n then ([], 3) else ((b.drop i.toNat).take n.toNat, 0) := rfl
  refine ⟨fun t => ?_, fun t => ⟨fun t1 => ?_, fun t1 => ⟨fun t2 => ?_, fun t2 => ⟨fun t3 => ?_, fun t3 => ?_⟩⟩⟩⟩
  · rw [key, if_pos (.inl t)]; exact ⟨rfl, rfl⟩
  · rw [key, if_pos (.inr t1)]; exact ⟨rfl, rfl⟩
  · rw [key, if_neg (by have := t; have := t1; omega), if_pos (.inl t2)]; exact ⟨rfl, rfl⟩
  · rw [key, if_neg (by have := t; have := t1; omega), if_pos (.inr t3)]; exact ⟨rfl, rfl⟩
  · have a1 := t; have a2 := t1; have a3 := t2; have a4 := t3
    rw [part_get (by omega) (by omega) (by omega) (by omega), show (i + n).toNat - i.toNat = n.toNat by omega]
    have hl : ((b.drop i.toNat).take n.toNat).length ≤ b.length := by rw [List.length_take, List.length_drop]; omega
    exact ⟨by omega, ⟨_, rfl, by unfold sm; omega⟩, rfl, rfl⟩
set_option maxRecDepth 100000 in
theorem ok57 : FnIs Try.prog 57 partC := by
  refine fnIs (C := (ctrs c1)) (by kernel_rfl) c1_ok Try.func57 (code := code57) (by kernel_rfl) (by kernel_rfl) ?_
  rintro a ⟨b, i, n, rfl, h, h1, h2⟩
  exact ⟨anns [] [1, 3], kcast (vc57 b i n h h1 h2) (by kernel_rfl)⟩

noncomputable def code74 : Code := match Try.f74.body with | some c => c | none => .skip
set_option maxHeartbeats 4000000 in
theorem vc74 : ∀ (b : List Int) (i n : Int), sm b.length → okI i → okI n → True ∧ sw (decide (i < (0 : Int))) ((partF (vl (D.ints IntKind.u8 b)) (vi (D.v (Value.int IntKind.i64 i))) (vi (D.v (Value.int IntKind.i64 n)))).fst = [] ∧
  (1 : Int) = (partF (vl (D.ints IntKind.u8 b)) (vi (D.v (Value.int IntKind.i64 i))) (vi (D.v (Value.int IntKind.i64 n)))).snd ∧ (true && true) = true) (True ∧
  sw (decide (n < (0 : Int))) ((partF (vl (D.ints IntKind.u8 b)) (vi (D.v (Value.int IntKind.i64 i))) (vi (D.v (Value.int IntKind.i64 n)))).fst = [] ∧ (1 : Int) = (partF (vl (D.ints IntKind.u8 b)) (vi (D.v (Value.int IntKind.i64 i))) (vi (D.v (Value.int IntKind.i64 n)))).snd ∧
  (true && true) = true) (True ∧ sw (decide ((↑b.length : Int) < i)) ((partF (vl (D.ints IntKind.u8 b)) (vi (D.v (Value.int IntKind.i64 i))) (vi (D.v (Value.int IntKind.i64 n)))).fst = [] ∧
  (3 : Int) = (partF (vl (D.ints IntKind.u8 b)) (vi (D.v (Value.int IntKind.i64 i))) (vi (D.v (Value.int IntKind.i64 n)))).snd ∧ (true && true) = true) (True ∧
  True ∧ sw (decide (IntKind.i64.wrap ((↑b.length : Int) - i) < n)) ((partF (vl (D.ints IntKind.u8 b)) (vi (D.v (Value.int IntKind.i64 i))) (vi (D.v (Value.int IntKind.i64 n)))).fst = [] ∧
  (3 : Int) = (partF (vl (D.ints IntKind.u8 b)) (vi (D.v (Value.int IntKind.i64 i))) (vi (D.v (Value.int IntKind.i64 n)))).snd ∧ (true && true) = true) (True ∧
  ((0 : Int) ≤ i ∧ i ≤ IntKind.i64.wrap (i + n) ∧ IntKind.i64.wrap (i + n) ≤ (↑b.length : Int)) ∧ True ∧ ((0 : Nat) + (List.take ((IntKind.i64.wrap (i + n)).toNat - i.toNat) (List.drop i.toNat b)).length) * Try.prog.types[(5 : Nat)].bytes ≤ (140737488355328 : Nat) ∧
  [] ++ List.take ((IntKind.i64.wrap (i + n)).toNat - i.toNat) (List.drop i.toNat b) = (partF (vl (D.ints IntKind.u8 b)) (vi (D.v (Value.int IntKind.i64 i))) (vi (D.v (Value.int IntKind.i64 n)))).fst ∧
  (0 : Int) = (partF (vl (D.ints IntKind.u8 b)) (vi (D.v (Value.int IntKind.i64 i))) (vi (D.v (Value.int IntKind.i64 n)))).snd ∧ (!false && true && true) = true)))) := by
  simp only [↓sw_iff, ↓decide_eq_true_eq, ↓decide_eq_false_iff_not, true_and, and_true, Bool.and_self, Bool.not_false, vi, vl, Nat.zero_add, List.nil_append, Nat.mul_one, bytes5]
  intro b i n h h1 h2
  unfold sm at h
  unfold okI at h1 h2
  have e0 : IntKind.i64.wrap ((b.length : Int) - i) = b.length - i := wrap_i64_id (by omega) (by omega)
  have e1 : IntKind.i64.wrap (i + n) = i + n := wrap_i64_id (by omega) (by omega)
  rw [e0, e1]
  have key : partF b i n = if i < 0 ∨ n < 0 then ([], 1) else if (b.length : Int) < i ∨ (b.length : Int) - i < n then ([], 3) else ((b.drop i.toNat).take n.toNat, 0) := rfl
  refine ⟨fun t => ?_, fun t => ⟨fun t1 => ?_, fun t1 => ⟨fun t2 => ?_, fun t2 => ⟨fun t3 => ?_, fun t3 => ?_⟩⟩⟩⟩
  · rw [key, if_pos (.inl t)]; exact ⟨rfl, rfl⟩
  · rw [key, if_pos (.inr t1)]; exact ⟨rfl, rfl⟩
  · rw [key, if_neg (by have := t; have := t1; omega), if_pos (.inl t2)]; exact ⟨rfl, rfl⟩
  · rw [key, if_neg (by have := t; have := t1; omega), if_pos (.inr t3)]; exact ⟨rfl, rfl⟩
  · have a1 := t; have a2 := t1; have a3 := t2; have a4 := t3
    rw [part_get (by omega) (by omega) (by omega) (by omega), show (i + n).toNat - i.toNat = n.toNat by omega]
    have hl : ((b.drop i.toNat).take n.toNat).length ≤ b.length := by rw [List.length_take, List.length_drop]; omega
    exact ⟨by omega, by omega, rfl, rfl⟩
set_option maxRecDepth 100000 in
theorem ok74 : FnIs Try.prog 74 partC := by
  refine fnIs (C := (ctrs c0)) (by kernel_rfl) c0_ok Try.func74 (code := code74) (by kernel_rfl) (by kernel_rfl) ?_
  rintro a ⟨b, i, n, rfl, h, h1, h2⟩
  exact ⟨anns [] [1, 3], kcast (vc74 b i n h h1 h2) (by kernel_rfl)⟩

theorem c2_ok : COk Try.prog (ctrs c2) := cok_cons ok57 (cok_cons ok74 cok_nil)

noncomputable def code65 : Code := match Try.f65.body with | some c => c | none => .skip
set_option maxHeartbeats 4000000 in
theorem vc65 : ∀ (b : List Int) (i : Int) (k : Nat), sm b.length → okB b → okI i → (1 : Nat) ≤ k → k ≤ (8 : Nat) → True ∧ sw (decide ((↑k : Int) < (1 : Int))) ((0 : Int) = (valF (partF (vl (D.ints IntKind.u8 b)) (vi (D.v (Value.int IntKind.i64 i))) (↑(vi (D.v (Value.int IntKind.i64 (↑k : Int)))).toNat : Int)).fst, (partF (vl (D.ints IntKind.u8 b)) (vi (D.v (Value.int IntKind.i64 i))) (↑(vi (D.v (Value.int IntKind.i64 (↑k : Int)))).toNat : Int)).snd).fst ∧
  (1 : Int) = (valF (partF (vl (D.ints IntKind.u8 b)) (vi (D.v (Value.int IntKind.i64 i))) (↑(vi (D.v (Value.int IntKind.i64 (↑k : Int)))).toNat : Int)).fst, (partF (vl (D.ints IntKind.u8 b)) (vi (D.v (Value.int IntKind.i64 i))) (↑(vi (D.v (Value.int IntKind.i64 (↑k : Int)))).toNat : Int)).snd).snd ∧
  (true && true) = true) (True ∧ sw (decide ((8 : Int) < (↑k : Int))) ((0 : Int) = (valF (partF (vl (D.ints IntKind.u8 b)) (vi (D.v (Value.int IntKind.i64 i))) (↑(vi (D.v (Value.int IntKind.i64 (↑k : Int)))).toNat : Int)).fst, (partF (vl (D.ints IntKind.u8 b)) (vi (D.v (Value.int IntKind.i64 i))) (↑(vi (D.v (Value.int IntKind.i64 (↑k : Int)))).toNat : Int)).snd).fst ∧
  (1 : Int) = (valF (partF (vl (D.ints IntKind.u8 b)) (vi (D.v (Value.int IntKind.i64 i))) (↑(vi (D.v (Value.int IntKind.i64 (↑k : Int)))).toNat : Int)).fst, (partF (vl (D.ints IntKind.u8 b)) (vi (D.v (Value.int IntKind.i64 i))) (↑(vi (D.v (Value.int IntKind.i64 (↑k : Int)))).toNat : Int)).snd).snd ∧
  (true && true) = true) ((∃ (b_1 : List Int), ∃ (i_1 : Int), ∃ (n : Int), [O.d (D.ints IntKind.u8 b), O.d (D.v (Value.int IntKind.i64 i)), O.d (D.v (Value.int IntKind.i64 (↑k : Int)))] = [O.d (D.ints IntKind.u8 b_1), O.d (D.v (Value.int IntKind.i64 i_1)), O.d (D.v (Value.int IntKind.i64 n))] ∧
  sm b_1.length ∧ okI i_1 ∧ okI n) ∧ ∃ (g0 : Nat), g0 ≤ (partF b i (↑k : Int)).fst.length ∧ (0 : Int) = (↑g0 : Int) ∧ (0 : Int) = valF (List.take g0 (partF b i (↑k : Int)).fst) ∧
  (true && true) = true ∧ ∀ (g : Nat), g ≤ (partF b i (↑k : Int)).fst.length → True ∧ sw (decide ((↑g : Int) < (↑(partF (vl (D.ints IntKind.u8 b)) (vi (D.v (Value.int IntKind.i64 i))) (vi (D.v (Value.int IntKind.i64 (↑k : Int))))).fst.length : Int))) (((0 : Int) ≤ (↑g : Int) ∧
  (↑g : Int) < (↑(partF (vl (D.ints IntKind.u8 b)) (vi (D.v (Value.int IntKind.i64 i))) (vi (D.v (Value.int IntKind.i64 (↑k : Int))))).fst.length : Int)) ∧
  (0 : Int) ≤ (8 : Int) ∧ True ∧ True ∧ ∃ (g' : Nat), g' ≤ (partF b i (↑k : Int)).fst.length ∧ (partF b i (↑k : Int)).fst.length - g' < (partF b i (↑k : Int)).fst.length - g ∧
  (IntKind.i64.wrap ((↑g : Int) + (1 : Int)) = (↑g' : Int) ∧ bits BinOp.or IntKind.u64 (IntKind.u64.wrap (valF (List.take g (partF b i (↑k : Int)).fst) * (2 : Int) ^ min (Int.toNat (8 : Int)) IntKind.u64.bits)) (IntKind.u64.wrap ((partF (vl (D.ints IntKind.u8 b)) (vi (D.v (Value.int IntKind.i64 i))) (vi (D.v (Value.int IntKind.i64 (↑k : Int))))).fst.getD (↑g : Int).toNat (0 : Int))) = valF (List.take g' (partF b i (↑k : Int)).fst) ∧
  (true && true && true) = true) ∧ (some (SV.c (Value.int IntKind.i64 (↑(partF (vl (D.ints IntKind.u8 b)) (vi (D.v (Value.int IntKind.i64 i))) (vi (D.v (Value.int IntKind.i64 (↑k : Int))))).fst.length : Int))) = some (SV.c (Value.int IntKind.i64 (↑(partF (vl (D.ints IntKind.u8 b)) (vi (D.v (Value.int IntKind.i64 i))) (vi (D.v (Value.int IntKind.i64 (↑k : Int))))).fst.length : Int))) ∧
  some (SV.a (1 : Nat)) = some (SV.a (1 : Nat)) ∧ some (SV.c (Value.int IntKind.i64 (partF (vl (D.ints IntKind.u8 b)) (vi (D.v (Value.int IntKind.i64 i))) (vi (D.v (Value.int IntKind.i64 (↑k : Int))))).snd)) = some (SV.c (Value.int IntKind.i64 (partF (vl (D.ints IntKind.u8 b)) (vi (D.v (Value.int IntKind.i64 i))) (vi (D.v (Value.int IntKind.i64 (↑k : Int))))).snd)) ∧
  some (SV.a (1 : Nat)) = some (SV.a (1 : Nat)) ∧ some (SV.c (Value.int IntKind.i64 (partF (vl (D.ints IntKind.u8 b)) (vi (D.v (Value.int IntKind.i64 i))) (vi (D.v (Value.int IntKind.i64 (↑k : Int))))).snd)) = some (SV.c (Value.int IntKind.i64 (partF (vl (D.ints IntKind.u8 b)) (vi (D.v (Value.int IntKind.i64 i))) (vi (D.v (Value.int IntKind.i64 (↑k : Int))))).snd)) ∧
  some (SV.a (1 : Nat)) = some (SV.a (1 : Nat)) ∧ some (SV.tup [SV.a (1 : Nat), SV.c (Value.int IntKind.i64 (partF (vl (D.ints IntKind.u8 b)) (vi (D.v (Value.int IntKind.i64 i))) (vi (D.v (Value.int IntKind.i64 (↑k : Int))))).snd)]) = some (SV.tup [SV.a (1 : Nat), SV.c (Value.int IntKind.i64 (partF (vl (D.ints IntKind.u8 b)) (vi (D.v (Value.int IntKind.i64 i))) (vi (D.v (Value.int IntKind.i64 (↑k : Int))))).snd)]) ∧
  some (SV.tup [SV.a (1 : Nat), SV.c (Value.int IntKind.i64 (partF (vl (D.ints IntKind.u8 b)) (vi (D.v (Value.int IntKind.i64 i))) (vi (D.v (Value.int IntKind.i64 (↑k : Int))))).snd)]) = some (SV.tup [SV.a (1 : Nat), SV.c (Value.int IntKind.i64 (partF (vl (D.ints IntKind.u8 b)) (vi (D.v (Value.int IntKind.i64 i))) (vi (D.v (Value.int IntKind.i64 (↑k : Int))))).snd)]) ∧
  some (SV.c (Value.int IntKind.i64 (↑k : Int))) = some (SV.c (Value.int IntKind.i64 (↑k : Int))) ∧ some (SV.c (Value.int IntKind.i64 i)) = some (SV.c (Value.int IntKind.i64 i)) ∧
  some (SV.a (0 : Nat)) = some (SV.a (0 : Nat)) ∧ some (SV.c (Value.bool (decide ((8 : Int) < (↑k : Int))))) = some (SV.c (Value.bool (decide ((8 : Int) < (↑k : Int))))) ∧
  some (SV.c (Value.bool (decide ((8 : Int) < (↑k : Int))))) = some (SV.c (Value.bool (decide ((8 : Int) < (↑k : Int))))) ∧ some (SV.c (Value.int IntKind.i64 (↑k : Int))) = some (SV.c (Value.int IntKind.i64 (↑k : Int))) ∧
  some (SV.b false) = some (SV.b false) ∧ some (SV.c (Value.bool (decide ((↑k : Int) < (1 : Int))))) = some (SV.c (Value.bool (decide ((↑k : Int) < (1 : Int))))) ∧
  some (SV.c (Value.int IntKind.i64 (↑k : Int))) = some (SV.c (Value.int IntKind.i64 (↑k : Int))) ∧ some (SV.a (0 : Nat)) = some (SV.a (0 : Nat)) ∧ some (SV.c (Value.int IntKind.i64 i)) = some (SV.c (Value.int IntKind.i64 i)) ∧
  some (SV.c (Value.int IntKind.i64 (↑k : Int))) = some (SV.c (Value.int IntKind.i64 (↑k : Int))) ∧ True) ∧ some (R.own (5 : Nat) (D.ints IntKind.u8 (partF (vl (D.ints IntKind.u8 b)) (vi (D.v (Value.int IntKind.i64 i))) (vi (D.v (Value.int IntKind.i64 (↑k : Int))))).fst)) = some (R.own (5 : Nat) (D.ints IntKind.u8 (partF (vl (D.ints IntKind.u8 b)) (vi (D.v (Value.int IntKind.i64 i))) (vi (D.v (Value.int IntKind.i64 (↑k : Int))))).fst)) ∧
  some (R.ro (D.ints IntKind.u8 b)) = some (R.ro (D.ints IntKind.u8 b)) ∧ True) (valF (List.take g (partF b i (↑k : Int)).fst) = (valF (partF (vl (D.ints IntKind.u8 b)) (vi (D.v (Value.int IntKind.i64 i))) (↑(vi (D.v (Value.int IntKind.i64 (↑k : Int)))).toNat : Int)).fst, (partF (vl (D.ints IntKind.u8 b)) (vi (D.v (Value.int IntKind.i64 i))) (↑(vi (D.v (Value.int IntKind.i64 (↑k : Int)))).toNat : Int)).snd).fst ∧
  (partF (vl (D.ints IntKind.u8 b)) (vi (D.v (Value.int IntKind.i64 i))) (vi (D.v (Value.int IntKind.i64 (↑k : Int))))).snd = (valF (partF (vl (D.ints IntKind.u8 b)) (vi (D.v (Value.int IntKind.i64 i))) (↑(vi (D.v (Value.int IntKind.i64 (↑k : Int)))).toNat : Int)).fst, (partF (vl (D.ints IntKind.u8 b)) (vi (D.v (Value.int IntKind.i64 i))) (↑(vi (D.v (Value.int IntKind.i64 (↑k : Int)))).toNat : Int)).snd).snd ∧
  (true && true) = true))) := by
  simp only [↓sw_iff, ↓decide_eq_true_eq, ↓decide_eq_false_iff_not, true_and, and_true, Bool.and_self, Int.toNat_natCast, vi, vl]
  intro b i k h hb h1 h2 h3
  have hp := part_ok hb i (k : Int)
  have hl := part_len (b := b) (i := i) (k := k)
  refine ⟨fun t => absurd t (by omega), fun _ => ⟨fun t => absurd t (by omega), fun _ => ⟨⟨b, i, k, rfl, h, h1, by unfold okI; omega⟩, 0, Nat.zero_le _, rfl, rfl, ?_⟩⟩⟩
  intro g hg
  refine ⟨fun t => ?_, fun t => ?_⟩
  · have hlt : g < (partF b i (k : Int)).1.length := by have := t; omega
    have hx := okB_getD hp g
    have hv := val_small (okB_take hp g) (by rw [List.length_take]; omega)
    refine ⟨⟨by omega, by omega⟩, by omega, g + 1, hlt, by omega, by rw [wrap_i64_id (by omega) (by omega)]; rfl, ?_⟩
    rw [or_byte hv.1 hv.2 hx.1 hx.2, take_succ_getD hlt, val_snoc]
  · rw [List.take_of_length_le (by have := t; omega)]
set_option maxRecDepth 100000 in
theorem ok65 : FnIs Try.prog 65 (getC 8) := by
  refine fnIs (C := (ctrs c2)) (by kernel_rfl) c2_ok Try.func65 (code := code65) (by kernel_rfl) (by kernel_rfl) ?_
  rintro a ⟨b, i, k, rfl, h, hb, h1, h2, h3⟩
  exact ⟨anns [(5, valAnn 26 6 (partF b i k).1)] [1], kcast (vc65 b i k h hb h1 h2 h3) (by kernel_rfl)⟩

noncomputable def code66 : Code := match Try.f66.body with | some c => c | none => .skip
set_option maxHeartbeats 4000000 in
theorem vc66 : ∀ (b : List Int) (i : Int) (k : Nat), sm b.length → okB b → okI i → (1 : Nat) ≤ k → k ≤ (8 : Nat) → True ∧ sw (decide ((↑k : Int) < (1 : Int))) ((0 : Int) = (valF (partF (vl (D.ints IntKind.u8 b)) (vi (D.v (Value.int IntKind.i64 i))) (↑(vi (D.v (Value.int IntKind.i64 (↑k : Int)))).toNat : Int)).fst, (partF (vl (D.ints IntKind.u8 b)) (vi (D.v (Value.int IntKind.i64 i))) (↑(vi (D.v (Value.int IntKind.i64 (↑k : Int)))).toNat : Int)).snd).fst ∧
  (1 : Int) = (valF (partF (vl (D.ints IntKind.u8 b)) (vi (D.v (Value.int IntKind.i64 i))) (↑(vi (D.v (Value.int IntKind.i64 (↑k : Int)))).toNat : Int)).fst, (partF (vl (D.ints IntKind.u8 b)) (vi (D.v (Value.int IntKind.i64 i))) (↑(vi (D.v (Value.int IntKind.i64 (↑k : Int)))).toNat : Int)).snd).snd ∧
  (true && true) = true) (True ∧ sw (decide ((8 : Int) < (↑k : Int))) ((0 : Int) = (valF (partF (vl (D.ints IntKind.u8 b)) (vi (D.v (Value.int IntKind.i64 i))) (↑(vi (D.v (Value.int IntKind.i64 (↑k : Int)))).toNat : Int)).fst, (partF (vl (D.ints IntKind.u8 b)) (vi (D.v (Value.int IntKind.i64 i))) (↑(vi (D.v (Value.int IntKind.i64 (↑k : Int)))).toNat : Int)).snd).fst ∧
  (1 : Int) = (valF (partF (vl (D.ints IntKind.u8 b)) (vi (D.v (Value.int IntKind.i64 i))) (↑(vi (D.v (Value.int IntKind.i64 (↑k : Int)))).toNat : Int)).fst, (partF (vl (D.ints IntKind.u8 b)) (vi (D.v (Value.int IntKind.i64 i))) (↑(vi (D.v (Value.int IntKind.i64 (↑k : Int)))).toNat : Int)).snd).snd ∧
  (true && true) = true) (True ∧ sw (decide (i < (0 : Int))) ((0 : Int) = (valF (partF (vl (D.ints IntKind.u8 b)) (vi (D.v (Value.int IntKind.i64 i))) (↑(vi (D.v (Value.int IntKind.i64 (↑k : Int)))).toNat : Int)).fst, (partF (vl (D.ints IntKind.u8 b)) (vi (D.v (Value.int IntKind.i64 i))) (↑(vi (D.v (Value.int IntKind.i64 (↑k : Int)))).toNat : Int)).snd).fst ∧
  (1 : Int) = (valF (partF (vl (D.ints IntKind.u8 b)) (vi (D.v (Value.int IntKind.i64 i))) (↑(vi (D.v (Value.int IntKind.i64 (↑k : Int)))).toNat : Int)).fst, (partF (vl (D.ints IntKind.u8 b)) (vi (D.v (Value.int IntKind.i64 i))) (↑(vi (D.v (Value.int IntKind.i64 (↑k : Int)))).toNat : Int)).snd).snd ∧
  (true && true) = true) ((∃ (b_1 : List Int), ∃ (i_1 : Int), ∃ (n : Int), [O.d (D.ints IntKind.u8 b), O.d (D.v (Value.int IntKind.i64 i)), O.d (D.v (Value.int IntKind.i64 (↑k : Int)))] = [O.d (D.ints IntKind.u8 b_1), O.d (D.v (Value.int IntKind.i64 i_1)), O.d (D.v (Value.int IntKind.i64 n))] ∧
  sm b_1.length ∧ okI i_1 ∧ okI n) ∧ True ∧ sw (!decide ((partF (vl (D.ints IntKind.u8 b)) (vi (D.v (Value.int IntKind.i64 i))) (vi (D.v (Value.int IntKind.i64 (↑k : Int))))).snd = (0 : Int))) ((0 : Int) = (valF (partF (vl (D.ints IntKind.u8 b)) (vi (D.v (Value.int IntKind.i64 i))) (↑(vi (D.v (Value.int IntKind.i64 (↑k : Int)))).toNat : Int)).fst, (partF (vl (D.ints IntKind.u8 b)) (vi (D.v (Value.int IntKind.i64 i))) (↑(vi (D.v (Value.int IntKind.i64 (↑k : Int)))).toNat : Int)).snd).fst ∧
  (partF (vl (D.ints IntKind.u8 b)) (vi (D.v (Value.int IntKind.i64 i))) (vi (D.v (Value.int IntKind.i64 (↑k : Int))))).snd = (valF (partF (vl (D.ints IntKind.u8 b)) (vi (D.v (Value.int IntKind.i64 i))) (↑(vi (D.v (Value.int IntKind.i64 (↑k : Int)))).toNat : Int)).fst, (partF (vl (D.ints IntKind.u8 b)) (vi (D.v (Value.int IntKind.i64 i))) (↑(vi (D.v (Value.int IntKind.i64 (↑k : Int)))).toNat : Int)).snd).snd ∧
  (true && true) = true) (∃ (g0 : Nat), g0 ≤ (partF b i (↑k : Int)).fst.length ∧ (0 : Int) = (↑g0 : Int) ∧ (0 : Int) = valF (List.take g0 (partF b i (↑k : Int)).fst) ∧
  (true && true) = true ∧ ∀ (g : Nat), g ≤ (partF b i (↑k : Int)).fst.length → True ∧ sw (decide ((↑g : Int) < (↑(partF (vl (D.ints IntKind.u8 b)) (vi (D.v (Value.int IntKind.i64 i))) (vi (D.v (Value.int IntKind.i64 (↑k : Int))))).fst.length : Int))) (True ∧
  ((0 : Int) ≤ (↑g : Int) ∧ (↑g : Int) < (↑(partF (vl (D.ints IntKind.u8 b)) (vi (D.v (Value.int IntKind.i64 i))) (vi (D.v (Value.int IntKind.i64 (↑k : Int))))).fst.length : Int)) ∧
  True ∧ True ∧ ∃ (g' : Nat), g' ≤ (partF b i (↑k : Int)).fst.length ∧ (partF b i (↑k : Int)).fst.length - g' < (partF b i (↑k : Int)).fst.length - g ∧ (IntKind.i64.wrap ((↑g : Int) + (1 : Int)) = (↑g' : Int) ∧
  IntKind.u64.wrap (IntKind.u64.wrap (valF (List.take g (partF b i (↑k : Int)).fst) * (256 : Int)) + IntKind.u64.wrap ((partF (vl (D.ints IntKind.u8 b)) (vi (D.v (Value.int IntKind.i64 i))) (vi (D.v (Value.int IntKind.i64 (↑k : Int))))).fst.getD (↑g : Int).toNat (0 : Int))) = valF (List.take g' (partF b i (↑k : Int)).fst) ∧
  (true && true && true) = true) ∧ (some (SV.c (Value.bool !decide ((partF (vl (D.ints IntKind.u8 b)) (vi (D.v (Value.int IntKind.i64 i))) (vi (D.v (Value.int IntKind.i64 (↑k : Int))))).snd = (0 : Int)))) = some (SV.c (Value.bool !decide ((partF (vl (D.ints IntKind.u8 b)) (vi (D.v (Value.int IntKind.i64 i))) (vi (D.v (Value.int IntKind.i64 (↑k : Int))))).snd = (0 : Int)))) ∧
  some (SV.c (Value.int IntKind.i64 (partF (vl (D.ints IntKind.u8 b)) (vi (D.v (Value.int IntKind.i64 i))) (vi (D.v (Value.int IntKind.i64 (↑k : Int))))).snd)) = some (SV.c (Value.int IntKind.i64 (partF (vl (D.ints IntKind.u8 b)) (vi (D.v (Value.int IntKind.i64 i))) (vi (D.v (Value.int IntKind.i64 (↑k : Int))))).snd)) ∧
  some (SV.c (Value.int IntKind.i64 (partF (vl (D.ints IntKind.u8 b)) (vi (D.v (Value.int IntKind.i64 i))) (vi (D.v (Value.int IntKind.i64 (↑k : Int))))).snd)) = some (SV.c (Value.int IntKind.i64 (partF (vl (D.ints IntKind.u8 b)) (vi (D.v (Value.int IntKind.i64 i))) (vi (D.v (Value.int IntKind.i64 (↑k : Int))))).snd)) ∧
  some (SV.a (1 : Nat)) = some (SV.a (1 : Nat)) ∧ some (SV.c (Value.int IntKind.i64 (partF (vl (D.ints IntKind.u8 b)) (vi (D.v (Value.int IntKind.i64 i))) (vi (D.v (Value.int IntKind.i64 (↑k : Int))))).snd)) = some (SV.c (Value.int IntKind.i64 (partF (vl (D.ints IntKind.u8 b)) (vi (D.v (Value.int IntKind.i64 i))) (vi (D.v (Value.int IntKind.i64 (↑k : Int))))).snd)) ∧
  some (SV.a (1 : Nat)) = some (SV.a (1 : Nat)) ∧ some (SV.tup [SV.a (1 : Nat), SV.c (Value.int IntKind.i64 (partF (vl (D.ints IntKind.u8 b)) (vi (D.v (Value.int IntKind.i64 i))) (vi (D.v (Value.int IntKind.i64 (↑k : Int))))).snd)]) = some (SV.tup [SV.a (1 : Nat), SV.c (Value.int IntKind.i64 (partF (vl (D.ints IntKind.u8 b)) (vi (D.v (Value.int IntKind.i64 i))) (vi (D.v (Value.int IntKind.i64 (↑k : Int))))).snd)]) ∧
  some (SV.tup [SV.a (1 : Nat), SV.c (Value.int IntKind.i64 (partF (vl (D.ints IntKind.u8 b)) (vi (D.v (Value.int IntKind.i64 i))) (vi (D.v (Value.int IntKind.i64 (↑k : Int))))).snd)]) = some (SV.tup [SV.a (1 : Nat), SV.c (Value.int IntKind.i64 (partF (vl (D.ints IntKind.u8 b)) (vi (D.v (Value.int IntKind.i64 i))) (vi (D.v (Value.int IntKind.i64 (↑k : Int))))).snd)]) ∧
  some (SV.c (Value.int IntKind.i64 (↑k : Int))) = some (SV.c (Value.int IntKind.i64 (↑k : Int))) ∧ some (SV.c (Value.int IntKind.i64 i)) = some (SV.c (Value.int IntKind.i64 i)) ∧
  some (SV.a (0 : Nat)) = some (SV.a (0 : Nat)) ∧ some (SV.c (Value.bool (decide (i < (0 : Int))))) = some (SV.c (Value.bool (decide (i < (0 : Int))))) ∧
  some (SV.c (Value.bool (decide (i < (0 : Int))))) = some (SV.c (Value.bool (decide (i < (0 : Int))))) ∧ some (SV.c (Value.int IntKind.i64 i)) = some (SV.c (Value.int IntKind.i64 i)) ∧
  some (SV.b false) = some (SV.b false) ∧ some (SV.c (Value.bool (decide ((8 : Int) < (↑k : Int))))) = some (SV.c (Value.bool (decide ((8 : Int) < (↑k : Int))))) ∧
  some (SV.c (Value.bool (decide ((8 : Int) < (↑k : Int))))) = some (SV.c (Value.bool (decide ((8 : Int) < (↑k : Int))))) ∧ some (SV.c (Value.int IntKind.i64 (↑k : Int))) = some (SV.c (Value.int IntKind.i64 (↑k : Int))) ∧
  some (SV.b false) = some (SV.b false) ∧ some (SV.c (Value.bool (decide ((↑k : Int) < (1 : Int))))) = some (SV.c (Value.bool (decide ((↑k : Int) < (1 : Int))))) ∧
  some (SV.c (Value.int IntKind.i64 (↑k : Int))) = some (SV.c (Value.int IntKind.i64 (↑k : Int))) ∧ some (SV.c (Value.int IntKind.i64 (0 : Int))) = some (SV.c (Value.int IntKind.i64 (0 : Int))) ∧
  some (SV.c (Value.int IntKind.u64 (0 : Int))) = some (SV.c (Value.int IntKind.u64 (0 : Int))) ∧ some (SV.a (0 : Nat)) = some (SV.a (0 : Nat)) ∧ some (SV.c (Value.int IntKind.i64 i)) = some (SV.c (Value.int IntKind.i64 i)) ∧
  some (SV.c (Value.int IntKind.i64 (↑k : Int))) = some (SV.c (Value.int IntKind.i64 (↑k : Int))) ∧ True) ∧ some (R.own (5 : Nat) (D.ints IntKind.u8 (partF (vl (D.ints IntKind.u8 b)) (vi (D.v (Value.int IntKind.i64 i))) (vi (D.v (Value.int IntKind.i64 (↑k : Int))))).fst)) = some (R.own (5 : Nat) (D.ints IntKind.u8 (partF (vl (D.ints IntKind.u8 b)) (vi (D.v (Value.int IntKind.i64 i))) (vi (D.v (Value.int IntKind.i64 (↑k : Int))))).fst)) ∧
  some (R.ro (D.ints IntKind.u8 b)) = some (R.ro (D.ints IntKind.u8 b)) ∧ True) (valF (List.take g (partF b i (↑k : Int)).fst) = (valF (partF (vl (D.ints IntKind.u8 b)) (vi (D.v (Value.int IntKind.i64 i))) (↑(vi (D.v (Value.int IntKind.i64 (↑k : Int)))).toNat : Int)).fst, (partF (vl (D.ints IntKind.u8 b)) (vi (D.v (Value.int IntKind.i64 i))) (↑(vi (D.v (Value.int IntKind.i64 (↑k : Int)))).toNat : Int)).snd).fst ∧
  (0 : Int) = (valF (partF (vl (D.ints IntKind.u8 b)) (vi (D.v (Value.int IntKind.i64 i))) (↑(vi (D.v (Value.int IntKind.i64 (↑k : Int)))).toNat : Int)).fst, (partF (vl (D.ints IntKind.u8 b)) (vi (D.v (Value.int IntKind.i64 i))) (↑(vi (D.v (Value.int IntKind.i64 (↑k : Int)))).toNat : Int)).snd).snd ∧
  (true && true) = true))))) := by
  simp only [↓sw_iff, ↓decide_eq_true_eq, ↓decide_eq_false_iff_not, ↓Bool.not_eq_true', ↓Bool.not_eq_false', true_and, and_true, Bool.and_self, Int.toNat_natCast, vi, vl]
  intro b i k h hb h1 h2 h3
  have hp := part_ok hb i (k : Int)
  have hl := part_len (b := b) (i := i) (k := k)
  have he := part_err b i (k : Int)
  refine ⟨fun t => absurd t (by omega), fun _ => ⟨fun t => absurd t (by omega), fun _ => ⟨fun t => ?_, fun _ => ⟨⟨b, i, k, rfl, h, h1, by unfold okI; omega⟩, fun t => ?_, fun t => ⟨0, Nat.zero_le _, rfl, rfl, ?_⟩⟩⟩⟩⟩
  · have key : partF b i (k : Int) = ([], 1) := by unfold partF; rw [if_pos (.inl t)]
    rw [key]; exact ⟨rfl, rfl⟩
  · rw [he t]; rfl
  have he0 : (partF b i (k : Int)).2 = 0 := t
  intro g hg
  refine ⟨fun t => ?_, fun t => ?_⟩
  · have hlt : g < (partF b i (k : Int)).1.length := by have := t; omega
    have hx := okB_getD hp g
    have hv := val_small (okB_take hp g) (by rw [List.length_take]; omega)
    have hv2 : valF ((partF b i (k : Int)).1.take g) < 72057594037927936 := hv.2
    refine ⟨⟨by omega, by omega⟩, g + 1, hlt, by omega, by rw [wrap_i64_id (by omega) (by omega)]; rfl, ?_⟩
    rw [take_succ_getD hlt, val_snoc, IntKind.wrap_u64, IntKind.wrap_u64, IntKind.wrap_u64]
    omega
  · rw [List.take_of_length_le (by have := t; omega)]
    exact ⟨rfl, he0.symm⟩
set_option maxRecDepth 100000 in
theorem ok66 : FnIs Try.prog 66 (getC 8) := by
  refine fnIs (C := (ctrs c2)) (by kernel_rfl) c2_ok Try.func66 (code := code66) (by kernel_rfl) (by kernel_rfl) ?_
  rintro a ⟨b, i, k, rfl, h, hb, h1, h2, h3⟩
  exact ⟨anns [(8, valAnn 11 10 (partF b i k).1)] [1], kcast (vc66 b i k h hb h1 h2 h3) (by kernel_rfl)⟩

theorem c3_ok : COk Try.prog (ctrs c3) := cok_cons ok66 cok_nil

noncomputable def code50 : Code := match Try.f50.body with | some c => c | none => .skip
set_option maxHeartbeats 4000000 in
theorem vc50 : ∀ (b : List Int) (i : Int) (k : Nat), sm b.length → okB b → okI i → (1 : Nat) ≤ k → k ≤ (7 : Nat) → (∃ (b_1 : List Int), ∃ (i_1 : Int), ∃ (k_1 : Nat), [O.d (D.ints IntKind.u8 b), O.d (D.v (Value.int IntKind.i64 i)), O.d (D.v (Value.int IntKind.i64 (↑k : Int)))] = [O.d (D.ints IntKind.u8 b_1), O.d (D.v (Value.int IntKind.i64 i_1)), O.d (D.v (Value.int IntKind.i64 (↑k_1 : Int)))] ∧
  sm b_1.length ∧ okB b_1 ∧ okI i_1 ∧ (1 : Nat) ≤ k_1 ∧ k_1 ≤ (8 : Nat)) ∧ IntKind.i64.wrap (valF (partF (vl (D.ints IntKind.u8 b)) (vi (D.v (Value.int IntKind.i64 i))) (↑(vi (D.v (Value.int IntKind.i64 (↑k : Int)))).toNat : Int)).fst, (partF (vl (D.ints IntKind.u8 b)) (vi (D.v (Value.int IntKind.i64 i))) (↑(vi (D.v (Value.int IntKind.i64 (↑k : Int)))).toNat : Int)).snd).fst = (valF (partF (vl (D.ints IntKind.u8 b)) (vi (D.v (Value.int IntKind.i64 i))) (↑(vi (D.v (Value.int IntKind.i64 (↑k : Int)))).toNat : Int)).fst, (partF (vl (D.ints IntKind.u8 b)) (vi (D.v (Value.int IntKind.i64 i))) (↑(vi (D.v (Value.int IntKind.i64 (↑k : Int)))).toNat : Int)).snd).fst ∧
  (true && true) = true := by
  simp only [and_true, Bool.and_self, Int.toNat_natCast, vi, vl]
  intro b i k h hb h1 h2 h3
  refine ⟨⟨b, i, k, rfl, h, hb, h1, h2, by omega⟩, ?_⟩
  have hs := val_small (part_ok hb i (k : Int)) (Nat.le_trans part_len h3)
  have h7 : (256 : Int) ^ 7 = 72057594037927936 := rfl
  rw [wrap_i64_id (by omega) (by omega)]
set_option maxRecDepth 100000 in
theorem ok50 : FnIs Try.prog 50 numC := by
  refine fnIs (C := (ctrs c3)) (by kernel_rfl) c3_ok Try.func50 (code := code50) (by kernel_rfl) (by kernel_rfl) ?_
  rintro a ⟨b, i, k, rfl, h, hb, h1, h2, h3⟩
  exact ⟨anns [], kcast (vc50 b i k h hb h1 h2 h3) (by kernel_rfl)⟩

end Go.ZR

/- The sum of bytes: contracts. -/
set_option maxRecDepth 100000
namespace Go.ZM
open Go.Z Go.ZR
def tabF : List Int := [0, 274646895, 549293790, 820201905, 1098587580, 1361435347, 1640403810, 1905808397, 2197175160, 2460548119, 2722870694, 2987750089, 3280807620, 3553878443, 3811616794, 4084100981]
def tabL (i : Nat) : List Int := (List.range 16).map fun j => if j < i then iv (sN 4 (bv j)) else 0
/-- As a byte's bits are taken in, one by one. -/
def ckR (c : BitVec 32) (x : Int) (k : Nat) : BitVec 32 := sN k (c ^^^ bv x) ^^^ (bv x >>> k)
end Go.ZM
namespace Go.ZR
open Go.Z Go.ZM Go.Proofs
def moreC : Ctr := nC 2 false (fun a => ∃ s b, a = [iO .u32 s, bsO b] ∧ (0 ≤ s ∧ s ≤ 4294967295) ∧ sm b.length ∧ okB b) fun a => [iO .u32 (moreF (vi (dO (at_ a 0))) (vl (dO (at_ a 1))))]
def csumC : Ctr := nC 1 false (fun a => ∃ b, a = [bsO b] ∧ sm b.length ∧ okB b) fun a => [iO .u32 (sumF (vl (dO (at_ a 0))))]
def tableC : Ctr := nC 0 false (fun a => a = []) fun _ => [.va .u32 tabF]
def moreAnn (s t : Nat) (c : BitVec 32) (b : List Int) : LoopAnn where
  γ := Nat
  pre := fun i => i ≤ b.length
  μ := fun i => b.length - i
  items := fun i => [(s, .c (iO .i64 (i : Int))), (t, .c (iO .u32 (iv (crcR c (b.take i)))))]
def bitAnn (s t : Nat) (c : BitVec 32) (b : List Int) : LoopF := .fam Nat fun i =>
  { γ := Nat
    pre := fun k => k ≤ 8
    μ := fun k => 8 - k
    items := fun k => [(s, .c (iO .i64 (k : Int))), (t, .c (iO .u32 (iv (ckR (crcR c (b.take i)) (b.getD i 0) k))))] }
def tabAnn (s t : Nat) : LoopAnn where
  γ := Nat
  pre := fun i => i ≤ 16
  μ := fun i => 16 - i
  items := fun i => [(s, .c (iO .i64 (i : Int))), (t, .c (.arr 115 .u32 (tabL i)))]
def tabBit (s t : Nat) : LoopF := .fam Nat fun i =>
  { γ := Nat
    pre := fun k => k ≤ 4
    μ := fun k => 4 - k
    items := fun k => [(s, .c (iO .i64 (k : Int))), (t, .c (iO .u32 (iv (sN k (bv i)))))] }
def k1 : List (Nat × Ctr) := [(78, tableC)]
def k2 : List (Nat × Ctr) := [(76, moreC)]
def k3 : List (Nat × Ctr) := [(73, moreC)]
end Go.ZR

/- The sum of bytes: walked. -/
namespace Go.ZR
open Go.Proofs
open Go.Z Go.ZM Go.RowKit
set_option maxRecDepth 100000
theorem size115 : Try.prog.types[(115 : Nat)].size = 16 := by kernel_rfl
theorem iv_one : iv 1#32 = 1 := rfl
theorem iv_15 : iv 15#32 = 15 := rfl
theorem iv_poly : iv poly = 2197175160 := rfl
theorem and_one (c : BitVec 32) : bits .and .u32 (iv c) 1 = if c.getLsbD 0 then 1 else 0 := by
  rw [← iv_one, and_iv, BitVec.and_one_eq_setWidth_ofBool_getLsbD]
  cases c.getLsbD 0 <;> rfl
theorem shr1 (c : BitVec 32) : Int.fdiv (iv c) (2 ^ min (Int.toNat 1) (IntKind.bits .u32)) = iv (c >>> 1) := shr_iv c 1 (by decide)
theorem shr4 (c : BitVec 32) : Int.fdiv (iv c) (2 ^ min (Int.toNat 4) (IntKind.bits .u32)) = iv (c >>> 4) := shr_iv c 4 (by decide)
theorem step_neg (c : BitVec 32) : bits .xor .u32 (iv (c >>> 1)) (bits .and .u32 2197175160 (IntKind.u32.wrap (0 - bits .and .u32 (iv c) 1))) = iv (s1 c) := by
  rw [and_one]
  unfold s1
  cases c.getLsbD 0 with
  | true =>
    rw [if_pos rfl, if_pos rfl]
    have : bits .and .u32 2197175160 (IntKind.u32.wrap (0 - 1)) = iv poly := by decide
    rw [this, xor_iv]
  | false =>
    rw [if_neg (by decide), if_neg (by decide)]
    have : bits .and .u32 2197175160 (IntKind.u32.wrap (0 - 0)) = iv 0#32 := by decide
    rw [this, xor_iv]
theorem tab_ok : tabL 16 = tabF := by decide +kernel
theorem tabL_zero : tabL 0 = List.replicate 16 0 := by decide +kernel
theorem tabL_set : ∀ i : Fin 16, (tabL i).set i (iv (sN 4 (bv (i : Nat)))) = tabL (i + 1) := by decide +kernel
theorem wrap_byte {x : Int} (h0 : 0 ≤ x) (h1 : x ≤ 255) : IntKind.u32.wrap x = iv (bv x) := by
  rw [iv_bv h0 (by omega), IntKind.wrap_u32]; omega
theorem and15 (d : BitVec 32) : bits .and .u32 (iv d) 15 = iv (d &&& 15#32) := by rw [← iv_15, and_iv]
theorem and15_rng (d : BitVec 32) : 0 ≤ iv (d &&& 15#32) ∧ iv (d &&& 15#32) < 16 := by
  have : (d &&& 15#32).toNat ≤ 15 := by rw [BitVec.toNat_and]; exact Nat.and_le_right
  unfold iv
  omega
theorem tab_get (d : BitVec 32) : tabF.getD (iv (d &&& 15#32)).toNat 0 = iv (sN 4 (d &&& 15#32)) := by
  have h := and15_rng d
  have key : ∀ i : Fin 16, tabF.getD i 0 = iv (sN 4 (bv (i : Nat))) := by decide +kernel
  have := key ⟨(iv (d &&& 15#32)).toNat, by omega⟩
  simp only [show (((iv (d &&& 15#32)).toNat : Nat) : Int) = iv (d &&& 15#32) by omega, bv_iv] at this
  exact this
theorem nib (d : BitVec 32) : (d >>> 4) ^^^ sN 4 (d &&& 15#32) = sN 4 d := by
  have e : d = (d &&& ~~~15#32) ^^^ (d &&& 15#32) := by
    apply BitVec.eq_of_getLsbD_eq
    intro i hi
    rw [BitVec.getLsbD_xor, BitVec.getLsbD_and, BitVec.getLsbD_and, BitVec.getLsbD_not]
    cases d.getLsbD i <;> cases (15#32).getLsbD i <;> simp [hi]
  have z : ∀ i, i < 4 → (d &&& ~~~15#32).getLsbD i = false := by
    intro i hi
    rw [BitVec.getLsbD_and, BitVec.getLsbD_not]
    have : (15#32).getLsbD i = true := by
      have : ∀ i : Fin 4, (15#32).getLsbD i = true := by decide
      exact this ⟨i, hi⟩
    rw [this]; simp
  conv => rhs; rw [e, sN_xor, sN_shr 4 _ z]
  congr 1
  apply BitVec.eq_of_getLsbD_eq
  intro i hi
  rw [BitVec.getLsbD_ushiftRight, BitVec.getLsbD_ushiftRight, BitVec.getLsbD_and, BitVec.getLsbD_not]
  have : (15#32).getLsbD (4 + i) = false := by
    have : ∀ i : Fin 32, (15#32).getLsbD (4 + i) = false := by decide
    exact this ⟨i, hi⟩
  rw [this]
  cases h : d.getLsbD (4 + i) with
  | false => rfl
  | true => have := BitVec.lt_of_getLsbD h; simp [this]
theorem byte_nibs (c : BitVec 32) (x : Int) : sN 4 (sN 4 (c ^^^ bv x)) = byteR c x := by
  rw [← sN_add]; rfl
theorem ckR_zero (c : BitVec 32) (x : Int) : ckR c x 0 = c := by
  unfold ckR
  simp [sN, BitVec.xor_assoc]
theorem ckR_end (c : BitVec 32) {x : Int} (h0 : 0 ≤ x) (h1 : x ≤ 255) : ckR c x 8 = byteR c x := by
  unfold ckR byteR
  have : bv x >>> 8 = 0#32 := by
    apply BitVec.eq_of_toNat_eq
    have := iv_bv h0 (show x ≤ 4294967295 by omega)
    unfold iv at this
    rw [BitVec.toNat_ushiftRight, Nat.shiftRight_eq_div_pow]
    simp
    omega
  rw [this]; simp
theorem ckR_succ (c : BitVec 32) (x : Int) (k : Nat) : ckR c x (k + 1) = (ckR c x k >>> 1) ^^^ (if (bv x >>> k ^^^ ckR c x k).getLsbD 0 then poly else 0#32) := by
  have e : bv x >>> k ^^^ ckR c x k = sN k (c ^^^ bv x) := by
    unfold ckR
    rw [BitVec.xor_comm, BitVec.xor_assoc]; simp
  rw [e]
  unfold ckR
  rw [sN_succ, BitVec.ushiftRight_xor_distrib, ← BitVec.shiftRight_add]
  generalize sN k (c ^^^ bv x) = d
  unfold s1
  rw [BitVec.xor_assoc, BitVec.xor_assoc]
  congr 1
  rw [BitVec.xor_comm]
theorem shrk {x : Int} (h0 : 0 ≤ x) (h1 : x ≤ 255) {k : Nat} (hk : k < 8) : Int.fdiv (IntKind.u32.wrap x) (2 ^ min (IntKind.u64.wrap (k : Int)).toNat (IntKind.bits .u32)) = iv (bv x >>> k) := by
  rw [wrap_byte h0 h1, show (IntKind.u64.wrap (k : Int)).toNat = k by rw [IntKind.wrap_u64]; omega]
  exact shr_iv _ k (by omega)
theorem sub_not {s : Int} (h : 0 ≤ s ∧ s ≤ 4294967295) : IntKind.u32.wrap (4294967295 - s) = iv (~~~ bv s) := by
  have := iv_bv h.1 h.2
  unfold iv at *
  rw [BitVec.toNat_not, IntKind.wrap_u32]
  omega
theorem xor_not {s : Int} (h : 0 ≤ s ∧ s ≤ 4294967295) : bits .xor .u32 IntKind.u32.max s = iv (~~~ bv s) := by
  have e : IntKind.u32.max = iv (BitVec.allOnes 32) := rfl
  rw [e, ← iv_bv h.1 h.2, xor_iv, bv_iv, BitVec.allOnes_xor]
theorem iv_sub (c : BitVec 32) : IntKind.u32.wrap (4294967295 - iv c) = iv (~~~ c) := by
  rw [sub_not (iv_rng c), bv_iv]
theorem iv_not (c : BitVec 32) : bits .xor .u32 IntKind.u32.max (iv c) = iv (~~~ c) := by
  rw [xor_not (iv_rng c), bv_iv]
noncomputable def code78 : Code := match Try.f78.body with | some c => c | none => .skip
set_option maxHeartbeats 4000000 in
theorem vc78 : ∃ (g0 : Nat), g0 ≤ (16 : Nat) ∧ (0 : Int) = (↑g0 : Int) ∧ List.replicate (16 : Nat) (0 : Int) = tabL g0 ∧ (!false && true && true) = true ∧ ∀ (g : Nat), g ≤ (16 : Nat) →
  True ∧ sw (decide ((↑g : Int) < (16 : Int))) (∃ (p : Nat), ∃ (g0_1 : Nat), g0_1 ≤ (4 : Nat) ∧ (0 : Int) = (↑g0_1 : Int) ∧ IntKind.u32.wrap (↑g : Int) = iv (sN g0_1 (bv (↑p : Int))) ∧
  (true && true) = true ∧ ∀ (g_1 : Nat), g_1 ≤ (4 : Nat) → True ∧ sw (decide ((↑g_1 : Int) < (4 : Int))) ((0 : Int) ≤ (1 : Int) ∧ True ∧ True ∧ True ∧ True ∧
  ∃ (g' : Nat), g' ≤ (4 : Nat) ∧ (4 : Nat) - g' < (4 : Nat) - g_1 ∧ (IntKind.i64.wrap ((↑g_1 : Int) + (1 : Int)) = (↑g' : Int) ∧ bits BinOp.xor IntKind.u32 ((iv (sN g_1 (bv (↑p : Int)))).fdiv ((2 : Int) ^ min (Int.toNat (1 : Int)) IntKind.u32.bits)) (bits BinOp.and IntKind.u32 (2197175160 : Int) (IntKind.u32.wrap ((0 : Int) - bits BinOp.and IntKind.u32 (iv (sN g_1 (bv (↑p : Int)))) (1 : Int)))) = iv (sN g' (bv (↑p : Int))) ∧
  (true && true && true) = true) ∧ (some (SV.c (Value.int IntKind.u32 (IntKind.u32.wrap (↑g : Int)))) = some (SV.c (Value.int IntKind.u32 (IntKind.u32.wrap (↑g : Int)))) ∧
  some (SV.c (Value.int IntKind.i64 (↑g : Int))) = some (SV.c (Value.int IntKind.i64 (↑g : Int))) ∧ some (SV.c (Value.int IntKind.i64 (↑g : Int))) = some (SV.c (Value.int IntKind.i64 (↑g : Int))) ∧
  some (SV.c (Value.int IntKind.i64 (↑g : Int))) = some (SV.c (Value.int IntKind.i64 (↑g : Int))) ∧ some (SV.c (Value.bool (decide ((↑g : Int) < (16 : Int))))) = some (SV.c (Value.bool (decide ((↑g : Int) < (16 : Int))))) ∧
  some (SV.c (Value.int IntKind.i64 (↑g : Int))) = some (SV.c (Value.int IntKind.i64 (↑g : Int))) ∧ some (SV.q (1 : Nat)) = some (SV.q (1 : Nat)) ∧ True) ∧
  some (R.own (115 : Nat) (D.ints IntKind.u32 (tabL g))) = some (R.own (115 : Nat) (D.ints IntKind.u32 (tabL g))) ∧ some R.dead = some R.dead ∧ True) (((0 : Int) ≤ (↑g : Int) ∧
  (↑g : Int) < (↑(16 : Nat) : Int) ∧ (16 : Nat) = (16 : Nat)) ∧ IntKind.u32 = IntKind.u32 ∧ True ∧ ∃ (g' : Nat), g' ≤ (16 : Nat) ∧ (16 : Nat) - g' < (16 : Nat) - g ∧
  (IntKind.i64.wrap ((↑g : Int) + (1 : Int)) = (↑g' : Int) ∧ (tabL g).set (↑g : Int).toNat (iv (sN g_1 (bv (↑p : Int)))) = tabL g' ∧ (!false && true && true && ((Nat.ble (1 : Nat) (1 : Nat) || (Nat.beq (0 : Nat) (1 : Nat) || false)) && true)) = true) ∧
  True ∧ True)) (Try.prog.types[(115 : Nat)].size = (16 : Nat) ∧ (IntKind.u32 = IntKind.u32 ∧ Try.prog.types[(115 : Nat)].size = (16 : Nat) ∧ (16 : Nat) = (16 : Nat)) ∧
  Try.prog.types[(115 : Nat)].size = (16 : Nat) ∧ tabL g = tabF ∧ (true && true) = true) := by
  simp only [↓sw_iff, ↓Bool.and_eq_true, ↓decide_eq_true_eq, ↓decide_eq_false_iff_not, ↓Bool.not_eq_true', true_and, and_true, Bool.or_false, Nat.ble, Nat.beq, Int.toNat_natCast, size115, shr1, step_neg]
  refine ⟨0, by omega, rfl, tabL_zero.symm, fun g hg => ⟨fun h => ?_, fun h => ?_⟩⟩
  · refine ⟨g, 0, by omega, rfl, ?_, fun k hk => ⟨fun h' => ?_, fun h' => ?_⟩⟩
    · show _ = iv (bv (g : Int)); exact (wrap_byte (by omega) (by omega))
    · exact ⟨by omega, k + 1, by omega, by omega, by rw [wrap_i64_id (by omega) (by omega)]; omega, by rw [sN_succ]⟩
    · have : k = 4 := by omega
      subst this
      exact ⟨⟨by omega, by omega⟩, g + 1, by omega, by omega, by rw [wrap_i64_id (by omega) (by omega)]; omega, by have := tabL_set ⟨g, by omega⟩; simpa using this⟩
  · have : g = 16 := by omega
    subst this
    exact tab_ok
set_option maxRecDepth 100000 in
theorem ok78 : FnIs Try.prog 78 tableC := by
  refine fnIs (C := (ctrs c0)) (by kernel_rfl) c0_ok Try.func78 (code := code78) (by kernel_rfl) (by kernel_rfl) ?_
  rintro a rfl
  exact ⟨anns [(2, tabAnn 3 0), (6, tabBit 8 2)], kcast (vc78) (by kernel_rfl)⟩

theorem k1_ok : COk Try.prog (ctrs k1) := cok_cons ok78 cok_nil

noncomputable def code76 : Code := match Try.f76.body with | some c => c | none => .skip
set_option maxHeartbeats 4000000 in
theorem vc76 : ∀ (s : Int) (b : List Int), (0 : Int) ≤ s ∧ s ≤ (4294967295 : Int) → sm b.length → okB b → ([] : List O) = [] ∧ (IntKind.u32 = IntKind.u32 ∧ Try.prog.types[(115 : Nat)].size = (16 : Nat) ∧
  (16 : Nat) = (16 : Nat)) ∧ ∃ (g0 : Nat), g0 ≤ b.length ∧ (0 : Int) = (↑g0 : Int) ∧ bits BinOp.xor IntKind.u32 IntKind.u32.max s = iv (crcR (~~~bv s) (List.take g0 b)) ∧
  (true && true) = true ∧ ∀ (g : Nat), g ≤ b.length → True ∧ sw (decide ((↑g : Int) < (↑b.length : Int))) (((0 : Int) ≤ (↑g : Int) ∧ (↑g : Int) < (↑b.length : Int)) ∧
  True ∧ (0 : Int) ≤ (4 : Int) ∧ True ∧ ((0 : Int) ≤ bits BinOp.and IntKind.u32 (bits BinOp.xor IntKind.u32 (iv (crcR (~~~bv s) (List.take g b))) (IntKind.u32.wrap (b.getD (↑g : Int).toNat (0 : Int)))) (15 : Int) ∧
  bits BinOp.and IntKind.u32 (bits BinOp.xor IntKind.u32 (iv (crcR (~~~bv s) (List.take g b))) (IntKind.u32.wrap (b.getD (↑g : Int).toNat (0 : Int)))) (15 : Int) < (↑(16 : Nat) : Int) ∧
  (16 : Nat) = (16 : Nat)) ∧ True ∧ (0 : Int) ≤ (4 : Int) ∧ True ∧ ((0 : Int) ≤ bits BinOp.and IntKind.u32 (bits BinOp.xor IntKind.u32 ((bits BinOp.xor IntKind.u32 (iv (crcR (~~~bv s) (List.take g b))) (IntKind.u32.wrap (b.getD (↑g : Int).toNat (0 : Int)))).fdiv ((2 : Int) ^ min (Int.toNat (4 : Int)) IntKind.u32.bits)) (tabF.getD (bits BinOp.and IntKind.u32 (bits BinOp.xor IntKind.u32 (iv (crcR (~~~bv s) (List.take g b))) (IntKind.u32.wrap (b.getD (↑g : Int).toNat (0 : Int)))) (15 : Int)).toNat (0 : Int))) (15 : Int) ∧
  bits BinOp.and IntKind.u32 (bits BinOp.xor IntKind.u32 ((bits BinOp.xor IntKind.u32 (iv (crcR (~~~bv s) (List.take g b))) (IntKind.u32.wrap (b.getD (↑g : Int).toNat (0 : Int)))).fdiv ((2 : Int) ^ min (Int.toNat (4 : Int)) IntKind.u32.bits)) (tabF.getD (bits BinOp.and IntKind.u32 (bits BinOp.xor IntKind.u32 (iv (crcR (~~~bv s) (List.take g b))) (IntKind.u32.wrap (b.getD (↑g : Int).toNat (0 : Int)))) (15 : Int)).toNat (0 : Int))) (15 : Int) < (↑(16 : Nat) : Int) ∧
  (16 : Nat) = (16 : Nat)) ∧ True ∧ True ∧ ∃ (g' : Nat), g' ≤ b.length ∧ b.length - g' < b.length - g ∧ (IntKind.i64.wrap ((↑g : Int) + (1 : Int)) = (↑g' : Int) ∧
  bits BinOp.xor IntKind.u32 ((bits BinOp.xor IntKind.u32 ((bits BinOp.xor IntKind.u32 (iv (crcR (~~~bv s) (List.take g b))) (IntKind.u32.wrap (b.getD (↑g : Int).toNat (0 : Int)))).fdiv ((2 : Int) ^ min (Int.toNat (4 : Int)) IntKind.u32.bits)) (tabF.getD (bits BinOp.and IntKind.u32 (bits BinOp.xor IntKind.u32 (iv (crcR (~~~bv s) (List.take g b))) (IntKind.u32.wrap (b.getD (↑g : Int).toNat (0 : Int)))) (15 : Int)).toNat (0 : Int))).fdiv ((2 : Int) ^ min (Int.toNat (4 : Int)) IntKind.u32.bits)) (tabF.getD (bits BinOp.and IntKind.u32 (bits BinOp.xor IntKind.u32 ((bits BinOp.xor IntKind.u32 (iv (crcR (~~~bv s) (List.take g b))) (IntKind.u32.wrap (b.getD (↑g : Int).toNat (0 : Int)))).fdiv ((2 : Int) ^ min (Int.toNat (4 : Int)) IntKind.u32.bits)) (tabF.getD (bits BinOp.and IntKind.u32 (bits BinOp.xor IntKind.u32 (iv (crcR (~~~bv s) (List.take g b))) (IntKind.u32.wrap (b.getD (↑g : Int).toNat (0 : Int)))) (15 : Int)).toNat (0 : Int))) (15 : Int)).toNat (0 : Int)) = iv (crcR (~~~bv s) (List.take g' b)) ∧
  (true && true && true) = true) ∧ (some (SV.c (Value.int IntKind.i64 (↑b.length : Int))) = some (SV.c (Value.int IntKind.i64 (↑b.length : Int))) ∧ some (SV.a (0 : Nat)) = some (SV.a (0 : Nat)) ∧
  some (SV.c (Value.int IntKind.u32 (bits BinOp.xor IntKind.u32 IntKind.u32.max s))) = some (SV.c (Value.int IntKind.u32 (bits BinOp.xor IntKind.u32 IntKind.u32.max s))) ∧
  some (SV.c (Value.int IntKind.u32 s)) = some (SV.c (Value.int IntKind.u32 s)) ∧ some (SV.q (1 : Nat)) = some (SV.q (1 : Nat)) ∧ some (SV.arr IntKind.u32 tabF) = some (SV.arr IntKind.u32 tabF) ∧
  some (SV.c (Value.int IntKind.u32 (0 : Int))) = some (SV.c (Value.int IntKind.u32 (0 : Int))) ∧ some (SV.c (Value.int IntKind.u32 s)) = some (SV.c (Value.int IntKind.u32 s)) ∧
  some (SV.a (0 : Nat)) = some (SV.a (0 : Nat)) ∧ True) ∧ some (R.own (115 : Nat) (D.ints IntKind.u32 tabF)) = some (R.own (115 : Nat) (D.ints IntKind.u32 tabF)) ∧
  some (R.ro (D.ints IntKind.u8 b)) = some (R.ro (D.ints IntKind.u8 b)) ∧ True) (bits BinOp.xor IntKind.u32 IntKind.u32.max (iv (crcR (~~~bv s) (List.take g b))) = moreF s b ∧
  (true && true) = true) := by
  simp only [↓sw_iff, ↓Bool.and_eq_true, ↓decide_eq_true_eq, ↓decide_eq_false_iff_not, true_and, and_true, Int.toNat_natCast, size115]
  intro s b hs h hb
  unfold sm at h
  refine ⟨0, by omega, rfl, by rw [xor_not hs]; rfl, fun g hg => ⟨fun hl => ?_, fun hl => ?_⟩⟩
  · obtain ⟨x0, x1⟩ := okB_getD hb g
    rw [wrap_byte x0 x1, xor_iv]
    generalize hd : crcR (~~~bv s) (List.take g b) ^^^ bv (b.getD g 0) = d
    simp only [shr4, and15, tab_get, xor_iv, nib]
    have r1 := and15_rng d
    have r2 := and15_rng (sN 4 d)
    refine ⟨by omega, by omega, by omega, by omega, by omega, g + 1, by omega, by omega, ?_, ?_⟩
    · rw [wrap_i64_id (by omega) (by omega)]; omega
    · rw [← hd, byte_nibs, crcR_take (by omega)]
  · have : g = b.length := by omega
    subst this
    rw [List.take_of_length_le (Nat.le_refl _), iv_not]
    rfl
set_option maxRecDepth 100000 in
theorem ok76 : FnIs Try.prog 76 moreC := by
  refine fnIs (C := (ctrs k1)) (by kernel_rfl) k1_ok Try.func76 (code := code76) (by kernel_rfl) (by kernel_rfl) ?_
  rintro a ⟨s, b, rfl, hs, h, hb⟩
  exact ⟨anns [(4, moreAnn 14 6 (~~~ bv s) b)], kcast (vc76 s b hs h hb) (by kernel_rfl)⟩

theorem k2_ok : COk Try.prog (ctrs k2) := cok_cons ok76 cok_nil

noncomputable def code73 : Code := match Try.f73.body with | some c => c | none => .skip
set_option maxHeartbeats 4000000 in
theorem vc73 : ∀ (s : Int) (b : List Int), (0 : Int) ≤ s ∧ s ≤ (4294967295 : Int) → sm b.length → okB b → True ∧ ∃ (g0 : Nat), g0 ≤ b.length ∧ (0 : Int) = (↑g0 : Int) ∧
  IntKind.u32.wrap ((4294967295 : Int) - s) = iv (crcR (~~~bv s) (List.take g0 b)) ∧ (true && true) = true ∧ ∀ (g : Nat), g ≤ b.length → True ∧ sw (decide ((↑g : Int) < (↑b.length : Int))) (∃ (p : Nat), ∃ (g0_1 : Nat), g0_1 ≤ (8 : Nat) ∧
  (0 : Int) = (↑g0_1 : Int) ∧ iv (crcR (~~~bv s) (List.take g b)) = iv (ckR (crcR (~~~bv s) (List.take p b)) (b.getD p (0 : Int)) g0_1) ∧ (true && true) = true ∧
  ∀ (g_1 : Nat), g_1 ≤ (8 : Nat) → True ∧ sw (decide ((↑g_1 : Int) < (8 : Int))) (((0 : Int) ≤ (↑g : Int) ∧ (↑g : Int) < (↑b.length : Int)) ∧ (0 : Int) ≤ IntKind.u64.wrap (↑g_1 : Int) ∧
  True ∧ True ∧ (0 : Int) ≤ (1 : Int) ∧ True ∧ sw (decide (bits BinOp.and IntKind.u32 (bits BinOp.xor IntKind.u32 ((IntKind.u32.wrap (b.getD (↑g : Int).toNat (0 : Int))).fdiv ((2 : Int) ^ min (IntKind.u64.wrap (↑g_1 : Int)).toNat IntKind.u32.bits)) (iv (ckR (crcR (~~~bv s) (List.take p b)) (b.getD p (0 : Int)) g_1))) (1 : Int) = (1 : Int))) (True ∧
  True ∧ ∃ (g' : Nat), g' ≤ (8 : Nat) ∧ (8 : Nat) - g' < (8 : Nat) - g_1 ∧ (IntKind.i64.wrap ((↑g_1 : Int) + (1 : Int)) = (↑g' : Int) ∧ bits BinOp.xor IntKind.u32 ((iv (ckR (crcR (~~~bv s) (List.take p b)) (b.getD p (0 : Int)) g_1)).fdiv ((2 : Int) ^ min (Int.toNat (1 : Int)) IntKind.u32.bits)) (2197175160 : Int) = iv (ckR (crcR (~~~bv s) (List.take p b)) (b.getD p (0 : Int)) g') ∧
  (true && true && true) = true) ∧ (some (SV.c (Value.bool (decide ((↑g : Int) < (↑b.length : Int))))) = some (SV.c (Value.bool (decide ((↑g : Int) < (↑b.length : Int))))) ∧
  some (SV.c (Value.int IntKind.i64 (↑b.length : Int))) = some (SV.c (Value.int IntKind.i64 (↑b.length : Int))) ∧ some (SV.a (0 : Nat)) = some (SV.a (0 : Nat)) ∧
  some (SV.c (Value.int IntKind.i64 (↑g : Int))) = some (SV.c (Value.int IntKind.i64 (↑g : Int))) ∧ some (SV.c (Value.int IntKind.i64 (↑g : Int))) = some (SV.c (Value.int IntKind.i64 (↑g : Int))) ∧
  some (SV.c (Value.int IntKind.u32 (IntKind.u32.wrap ((4294967295 : Int) - s)))) = some (SV.c (Value.int IntKind.u32 (IntKind.u32.wrap ((4294967295 : Int) - s)))) ∧
  some (SV.c (Value.int IntKind.u32 s)) = some (SV.c (Value.int IntKind.u32 s)) ∧ some (SV.c (Value.int IntKind.u32 (0 : Int))) = some (SV.c (Value.int IntKind.u32 (0 : Int))) ∧
  some (SV.c (Value.int IntKind.u32 s)) = some (SV.c (Value.int IntKind.u32 s)) ∧ some (SV.a (0 : Nat)) = some (SV.a (0 : Nat)) ∧ True) ∧ some (R.ro (D.ints IntKind.u8 b)) = some (R.ro (D.ints IntKind.u8 b)) ∧
  True) (True ∧ ∃ (g' : Nat), g' ≤ (8 : Nat) ∧ (8 : Nat) - g' < (8 : Nat) - g_1 ∧ (IntKind.i64.wrap ((↑g_1 : Int) + (1 : Int)) = (↑g' : Int) ∧ (iv (ckR (crcR (~~~bv s) (List.take p b)) (b.getD p (0 : Int)) g_1)).fdiv ((2 : Int) ^ min (Int.toNat (1 : Int)) IntKind.u32.bits) = iv (ckR (crcR (~~~bv s) (List.take p b)) (b.getD p (0 : Int)) g') ∧
  (true && true && true) = true) ∧ (some (SV.c (Value.bool (decide ((↑g : Int) < (↑b.length : Int))))) = some (SV.c (Value.bool (decide ((↑g : Int) < (↑b.length : Int))))) ∧
  some (SV.c (Value.int IntKind.i64 (↑b.length : Int))) = some (SV.c (Value.int IntKind.i64 (↑b.length : Int))) ∧ some (SV.a (0 : Nat)) = some (SV.a (0 : Nat)) ∧
  some (SV.c (Value.int IntKind.i64 (↑g : Int))) = some (SV.c (Value.int IntKind.i64 (↑g : Int))) ∧ some (SV.c (Value.int IntKind.i64 (↑g : Int))) = some (SV.c (Value.int IntKind.i64 (↑g : Int))) ∧
  some (SV.c (Value.int IntKind.u32 (IntKind.u32.wrap ((4294967295 : Int) - s)))) = some (SV.c (Value.int IntKind.u32 (IntKind.u32.wrap ((4294967295 : Int) - s)))) ∧
  some (SV.c (Value.int IntKind.u32 s)) = some (SV.c (Value.int IntKind.u32 s)) ∧ some (SV.c (Value.int IntKind.u32 (0 : Int))) = some (SV.c (Value.int IntKind.u32 (0 : Int))) ∧
  some (SV.c (Value.int IntKind.u32 s)) = some (SV.c (Value.int IntKind.u32 s)) ∧ some (SV.a (0 : Nat)) = some (SV.a (0 : Nat)) ∧ True) ∧ some (R.ro (D.ints IntKind.u8 b)) = some (R.ro (D.ints IntKind.u8 b)) ∧
  True)) (True ∧ ∃ (g' : Nat), g' ≤ b.length ∧ b.length - g' < b.length - g ∧ (IntKind.i64.wrap ((↑g : Int) + (1 : Int)) = (↑g' : Int) ∧ iv (ckR (crcR (~~~bv s) (List.take p b)) (b.getD p (0 : Int)) g_1) = iv (crcR (~~~bv s) (List.take g' b)) ∧
  (true && true && true) = true) ∧ (some (SV.c (Value.int IntKind.u32 (IntKind.u32.wrap ((4294967295 : Int) - s)))) = some (SV.c (Value.int IntKind.u32 (IntKind.u32.wrap ((4294967295 : Int) - s)))) ∧
  some (SV.c (Value.int IntKind.u32 s)) = some (SV.c (Value.int IntKind.u32 s)) ∧ some (SV.c (Value.int IntKind.u32 (0 : Int))) = some (SV.c (Value.int IntKind.u32 (0 : Int))) ∧
  some (SV.c (Value.int IntKind.u32 s)) = some (SV.c (Value.int IntKind.u32 s)) ∧ some (SV.a (0 : Nat)) = some (SV.a (0 : Nat)) ∧ True) ∧ some (R.ro (D.ints IntKind.u8 b)) = some (R.ro (D.ints IntKind.u8 b)) ∧
  True)) (True ∧ IntKind.u32.wrap ((4294967295 : Int) - iv (crcR (~~~bv s) (List.take g b))) = moreF s b ∧ (true && true) = true) := by
  simp only [↓sw_iff, ↓Bool.and_eq_true, ↓decide_eq_true_eq, ↓decide_eq_false_iff_not, true_and, and_true, Int.toNat_natCast, shr1]
  intro s b hs h hb
  unfold sm at h
  refine ⟨0, by omega, rfl, by rw [sub_not hs]; rfl, fun g hg => ⟨fun hl => ?_, fun hl => ?_⟩⟩
  · obtain ⟨x0, x1⟩ := okB_getD hb g
    refine ⟨g, 0, by omega, rfl, by rw [ckR_zero], fun k hk => ⟨fun h' => ?_, fun h' => ?_⟩⟩
    · rw [shrk x0 x1 (by omega), xor_iv, and_one]
      have e := ckR_succ (crcR (~~~bv s) (List.take g b)) (b.getD g 0) k
      have w : IntKind.u64.wrap (k : Int) = k := by rw [IntKind.wrap_u64]; omega
      have w2 : IntKind.i64.wrap ((k : Int) + 1) = ((k + 1 : Nat) : Int) := by rw [wrap_i64_id (by omega) (by omega)]; omega
      refine ⟨⟨by omega, by omega⟩, by omega, by omega, fun q => ⟨k + 1, by omega, by omega, w2, ?_⟩, fun q => ⟨k + 1, by omega, by omega, w2, ?_⟩⟩
      · rw [e, ← iv_poly, xor_iv]
        cases hb : (bv (b.getD g 0) >>> k ^^^ ckR (crcR (~~~bv s) (List.take g b)) (b.getD g 0) k).getLsbD 0 with
        | true => rw [if_pos rfl]
        | false => rw [hb] at q; simp at q
      · rw [e]
        cases hb : (bv (b.getD g 0) >>> k ^^^ ckR (crcR (~~~bv s) (List.take g b)) (b.getD g 0) k).getLsbD 0 with
        | true => rw [hb] at q; simp at q
        | false => simp
    · have : k = 8 := by omega
      subst this
      refine ⟨g + 1, by omega, by omega, by rw [wrap_i64_id (by omega) (by omega)]; omega, ?_⟩
      rw [ckR_end _ x0 x1, crcR_take (by omega)]
  · have : g = b.length := by omega
    subst this
    rw [List.take_of_length_le (Nat.le_refl _), iv_sub]
    rfl
set_option maxRecDepth 100000 in
theorem ok73 : FnIs Try.prog 73 moreC := by
  refine fnIs (C := (ctrs c0)) (by kernel_rfl) c0_ok Try.func73 (code := code73) (by kernel_rfl) (by kernel_rfl) ?_
  rintro a ⟨s, b, rfl, hs, h, hb⟩
  exact ⟨anns [(3, moreAnn 6 5 (~~~ bv s) b), (6, bitAnn 7 5 (~~~ bv s) b)], kcast (vc73 s b hs h hb) (by kernel_rfl)⟩

theorem k3_ok : COk Try.prog (ctrs k3) := cok_cons ok73 cok_nil

noncomputable def code71 : Code := match Try.f71.body with | some c => c | none => .skip
set_option maxHeartbeats 4000000 in
theorem vc71 : ∀ (b : List Int), sm b.length → okB b → (∃ (s : Int), ∃ (b_1 : List Int), [O.d (D.v (Value.int IntKind.u32 (0 : Int))), O.d (D.ints IntKind.u8 b)] = [O.d (D.v (Value.int IntKind.u32 s)), O.d (D.ints IntKind.u8 b_1)] ∧
  ((0 : Int) ≤ s ∧ s ≤ (4294967295 : Int)) ∧ sm b_1.length ∧ okB b_1) ∧ moreF (0 : Int) b = sumF b ∧ (true && true) = true := by
  simp only [↓Bool.and_eq_true, and_true]
  intro b h hb
  exact ⟨⟨0, b, rfl, by omega, h, hb⟩, rfl⟩
set_option maxRecDepth 100000 in
theorem ok71 : FnIs Try.prog 71 csumC := by
  refine fnIs (C := (ctrs k2)) (by kernel_rfl) k2_ok Try.func71 (code := code71) (by kernel_rfl) (by kernel_rfl) ?_
  rintro a ⟨b, rfl, h, hb⟩
  exact ⟨anns [], kcast (vc71 b h hb) (by kernel_rfl)⟩

noncomputable def code64 : Code := match Try.f64.body with | some c => c | none => .skip
set_option maxHeartbeats 4000000 in
theorem vc64 : ∀ (b : List Int), sm b.length → okB b → (∃ (s : Int), ∃ (b_1 : List Int), [O.d (D.v (Value.int IntKind.u32 (0 : Int))), O.d (D.ints IntKind.u8 b)] = [O.d (D.v (Value.int IntKind.u32 s)), O.d (D.ints IntKind.u8 b_1)] ∧
  ((0 : Int) ≤ s ∧ s ≤ (4294967295 : Int)) ∧ sm b_1.length ∧ okB b_1) ∧ moreF (0 : Int) b = sumF b ∧ (true && true) = true := by
  simp only [↓Bool.and_eq_true, and_true]
  intro b h hb
  exact ⟨⟨0, b, rfl, by omega, h, hb⟩, rfl⟩
set_option maxRecDepth 100000 in
theorem ok64 : FnIs Try.prog 64 csumC := by
  refine fnIs (C := (ctrs k3)) (by kernel_rfl) k3_ok Try.func64 (code := code64) (by kernel_rfl) (by kernel_rfl) ?_
  rintro a ⟨b, rfl, h, hb⟩
  exact ⟨anns [], kcast (vc64 b h hb) (by kernel_rfl)⟩

end Go.ZR

/- Cookies: plain functions, contracts. -/
set_option maxRecDepth 100000
namespace Go.ZM
open Go.Z Go.ZR

structure CruR where
  time : Int
  a : Int
  b : Int
  c : Int
  d : Int
  e : Int
  f : Int
  g : Int
def noCru : CruR := ⟨0, 0, 0, 0, 0, 0, 0, 0⟩
def okU (n : Int) : Prop := 0 ≤ n ∧ n ≤ 4294967295
def okCru (c : CruR) : Prop := (-9223372036854775808 ≤ c.time ∧ c.time ≤ 9223372036854775807) ∧ okU c.a ∧ okU c.b ∧ okU c.c ∧ okU c.d ∧ okU c.e ∧ okU c.f ∧ okU c.g
def soundF (c : CruR) : Bool := decide (0 ≤ c.time) && decide (c.time ≤ 1099511627776) && !decide (c.a = 0) && !decide (c.b = 0)
def cruB (c : CruR) : List Int := be c.time 8 ++ be c.a 4 ++ be c.b 4 ++ be c.c 4 ++ be c.d 4 ++ be c.e 4 ++ be c.f 4 ++ be c.g 4
def keyF (key : Int) (b : List Int) : Int := sumF (be key 8 ++ b ++ be key 8)
def sealB (key : Int) (c : CruR) : List Int := cruB c ++ be (keyF key (cruB c)) 4
def sealF (key : Int) (c : CruR) : List Int × Int := if soundF c = true then (sealB key c, 0) else ([], 1)
def nAt (v : List Int) (i : Int) (k : Nat) : Int := (getF v i k).1
def sI (n : Int) : Int := IntKind.i64.wrap n
def cruOf (v : List Int) : CruR := ⟨sI (nAt v 0 8), nAt v 8 4, nAt v 12 4, nAt v 16 4, nAt v 20 4, nAt v 24 4, nAt v 28 4, nAt v 32 4⟩
def openF (key : Int) (b : List Int) : CruR × Int :=
  if b.length < 40 then (noCru, 3) else if 40 < b.length then (noCru, 2) else
  if nAt b 36 4 ≠ keyF key (b.take 36) then (noCru, 5) else if soundF (cruOf b) = true then (cruOf b, 0) else (noCru, 2)
def freshF (time now life : Int) : Bool := decide (time ≤ now) && decide (0 ≤ life) && decide (now - time ≤ life)
end Go.ZM
namespace Go.ZR
open Go.Z Go.ZM Go.Proofs
def cruO (c : CruR) : O := .agg [iO .i64 c.time, iO .u32 c.a, iO .u32 c.b, iO .u32 c.c, iO .u32 c.d, iO .u32 c.e, iO .u32 c.f, iO .u32 c.g]
def cruOfO : O → CruR
  | .agg [t, a, b, c, d, e, f, g] => ⟨vi (dO t), vi (dO a), vi (dO b), vi (dO c), vi (dO d), vi (dO e), vi (dO f), vi (dO g)⟩
  | _ => noCru
def keyC : Ctr := nC 2 false (fun a => ∃ k b, a = [iO .u64 k, bsO b] ∧ b.length ≤ 1048576 ∧ okB b) fun a => [iO .u64 (keyF (vi (dO (at_ a 0))) (vl (dO (at_ a 1))))]
def soundC : Ctr := nC 1 true (fun a => ∃ c, a = [cruO c]) fun a => [bO (soundF (cruOfO (at_ a 0)))]
def sealC : Ctr := nC 2 false (fun a => ∃ k c, a = [iO .u64 k, cruO c] ∧ okCru c) fun a => [bsN (sealF (vi (dO (at_ a 0))) (cruOfO (at_ a 1))).1, iO .i64 (sealF (vi (dO (at_ a 0))) (cruOfO (at_ a 1))).2]
def openC : Ctr := nC 2 false (fun a => ∃ k b, a = [iO .u64 k, bsO b] ∧ b.length ≤ 1048576 ∧ okB b) fun a => [cruO (openF (vi (dO (at_ a 0))) (vl (dO (at_ a 1)))).1, iO .i64 (openF (vi (dO (at_ a 0))) (vl (dO (at_ a 1)))).2]
def freshC : Ctr := nC 3 true (fun a => ∃ c n l, a = [cruO c, iO .i64 n, iO .i64 l] ∧ (-1099511627776 ≤ c.time ∧ c.time ≤ 1099511627776) ∧ (-1099511627776 ≤ n ∧ n ≤ 1099511627776) ∧ (-1099511627776 ≤ l ∧ l ≤ 1099511627776)) fun a =>
  [bO (freshF (cruOfO (at_ a 0)).time (vi (dO (at_ a 1))) (vi (dO (at_ a 2))))]
def ansKC : Ctr := nC 0 false (fun a => a = []) fun _ => [bO true]
def k4 : List (Nat × Ctr) := [(45, putC), (71, csumC)]
theorem k4_ok : COk Try.prog (ctrs k4) := cok_cons ok45 (cok_cons ok71 cok_nil)
def k5 : List (Nat × Ctr) := [(61, soundC), (45, putC), (63, keyC)]
def getQ : Ctr := { getC 8 with quiet := true }
def numQ : Ctr := { numC with quiet := true }
theorem ok65q : FnIs Try.prog 65 getQ := ⟨ok65.1, ok65.2⟩
theorem ok66q : FnIs Try.prog 66 getQ := ⟨ok66.1, ok66.2⟩
theorem ok50q : FnIs Try.prog 50 numQ := ⟨ok50.1, ok50.2⟩
def k6 : List (Nat × Ctr) := [(65, getC 8), (63, keyC), (61, soundC)]
def k7 : List (Nat × Ctr) := [(47, putC), (64, csumC)]
theorem k7_ok : COk Try.prog (ctrs k7) := cok_cons ok47 (cok_cons ok64 cok_nil)
def k8 : List (Nat × Ctr) := [(47, putC), (50, numC), (66, getC 8), (64, csumC)]
theorem k8_ok : COk Try.prog (ctrs k8) := cok_cons ok47 (cok_cons ok50 (cok_cons ok66 (cok_cons ok64 cok_nil)))
end Go.ZR

/- Cookies: walked. -/
namespace Go.ZR
open Go.Proofs
open Go.Z Go.ZM Go.RowKit
set_option maxRecDepth 100000
theorem key_small {b : List Int} (h : b.length ≤ 1048576) (k : Int) : (be k 8 ++ b ++ be k 8).length ≤ 1048592 := by
  simp only [List.length_append, be_len]; omega
theorem key_okB {b : List Int} (h : okB b) (k : Int) : okB (be k 8 ++ b ++ be k 8) := okB_append (okB_append (be_ok _ _) h) (be_ok _ _)
theorem wrap_sum (l : List Int) : IntKind.u64.wrap (sumF l) = sumF l := by
  have := iv_rng (~~~ crcR (~~~ bv 0) l)
  unfold sumF moreF
  rw [IntKind.wrap_u64]; omega
theorem toNat8 : Int.toNat 8 = 8 := rfl
theorem toNat4 : Int.toNat 4 = 4 := rfl
noncomputable def i63c72 : Code := match Try.f72.body with | some c => c | none => .skip
noncomputable def i63_72 : InlF := ⟨i63c72, Try.f72.ntmps, Try.f72.results.toList, anns [] [] [(3, 4), (11, 4)]⟩
noncomputable def i63c77 : Code := match Try.f77.body with | some c => c | none => .skip
noncomputable def i63_77 : InlF := ⟨i63c77, Try.f77.ntmps, Try.f77.results.toList, anns []⟩
noncomputable def i63 : List (Nat × InlF) := [(72, i63_72), (77, i63_77)]
theorem i63_ok : InlsOk Try.prog i63 := ⟨inlOk Try.func72 (by kernel_rfl) (by kernel_rfl), inlOk Try.func77 (by kernel_rfl) (by kernel_rfl), trivial⟩
noncomputable def i39c62 : Code := match Try.f62.body with | some c => c | none => .skip
noncomputable def i39_62 : InlF := ⟨i39c62, Try.f62.ntmps, Try.f62.results.toList, anns []⟩
noncomputable def i39 : List (Nat × InlF) := [(62, i39_62)]
theorem i39_ok : InlsOk Try.prog i39 := ⟨inlOk Try.func62 (by kernel_rfl) (by kernel_rfl), trivial⟩
noncomputable def code61 : Code := match Try.f61.body with | some c => c | none => .skip
set_option maxHeartbeats 4000000 in
theorem vc61 : ∀ (c : CruR), True ∧ sw (decide ((0 : Int) ≤ c.time)) (SV.p (0 : Nat) (0 : Nat) = SV.p (0 : Nat) (0 : Nat)) True ∧ sw (decide ((0 : Int) ≤ c.time)) ([decide ((0 : Int) ≤ c.time)] = [decide ((0 : Int) ≤ c.time)] ∧
  SV.c (Value.int IntKind.i64 c.time) = SV.c (Value.int IntKind.i64 c.time)) True ∧ sw (decide ((0 : Int) ≤ c.time)) ([decide ((0 : Int) ≤ c.time)] = [decide ((0 : Int) ≤ c.time)] ∧
  True ∧ SV.c (Value.bool (decide (c.time ≤ (1099511627776 : Int)))) = SV.c (Value.bool (decide (c.time ≤ (1099511627776 : Int))))) True ∧ [decide ((0 : Int) ≤ c.time)] = [decide ((0 : Int) ≤ c.time)] ∧
  sw (decide ((0 : Int) ≤ c.time) && decide (c.time ≤ (1099511627776 : Int))) (SV.p (0 : Nat) (1 : Nat) = SV.p (0 : Nat) (1 : Nat)) True ∧ sw (decide ((0 : Int) ≤ c.time) && decide (c.time ≤ (1099511627776 : Int))) ([decide ((0 : Int) ≤ c.time) && decide (c.time ≤ (1099511627776 : Int))] = [decide ((0 : Int) ≤ c.time) && decide (c.time ≤ (1099511627776 : Int))] ∧
  SV.c (Value.int IntKind.u32 c.a) = SV.c (Value.int IntKind.u32 c.a)) True ∧ sw (decide ((0 : Int) ≤ c.time) && decide (c.time ≤ (1099511627776 : Int))) ([decide ((0 : Int) ≤ c.time) && decide (c.time ≤ (1099511627776 : Int))] = [decide ((0 : Int) ≤ c.time) && decide (c.time ≤ (1099511627776 : Int))] ∧
  True ∧ SV.c (Value.bool !decide (c.a = (0 : Int))) = SV.c (Value.bool !decide (c.a = (0 : Int)))) True ∧ [decide ((0 : Int) ≤ c.time) && decide (c.time ≤ (1099511627776 : Int))] = [decide ((0 : Int) ≤ c.time) && decide (c.time ≤ (1099511627776 : Int))] ∧
  sw (decide ((0 : Int) ≤ c.time) && decide (c.time ≤ (1099511627776 : Int)) && !decide (c.a = (0 : Int))) (SV.p (0 : Nat) (2 : Nat) = SV.p (0 : Nat) (2 : Nat)) True ∧
  sw (decide ((0 : Int) ≤ c.time) && decide (c.time ≤ (1099511627776 : Int)) && !decide (c.a = (0 : Int))) ([decide ((0 : Int) ≤ c.time) && decide (c.time ≤ (1099511627776 : Int)) && !decide (c.a = (0 : Int))] = [decide ((0 : Int) ≤ c.time) && decide (c.time ≤ (1099511627776 : Int)) && !decide (c.a = (0 : Int))] ∧
  SV.c (Value.int IntKind.u32 c.b) = SV.c (Value.int IntKind.u32 c.b)) True ∧ sw (decide ((0 : Int) ≤ c.time) && decide (c.time ≤ (1099511627776 : Int)) && !decide (c.a = (0 : Int))) ([decide ((0 : Int) ≤ c.time) && decide (c.time ≤ (1099511627776 : Int)) && !decide (c.a = (0 : Int))] = [decide ((0 : Int) ≤ c.time) && decide (c.time ≤ (1099511627776 : Int)) && !decide (c.a = (0 : Int))] ∧
  True ∧ SV.c (Value.bool !decide (c.b = (0 : Int))) = SV.c (Value.bool !decide (c.b = (0 : Int)))) True ∧ [decide ((0 : Int) ≤ c.time) && decide (c.time ≤ (1099511627776 : Int)) && !decide (c.a = (0 : Int))] = [decide ((0 : Int) ≤ c.time) && decide (c.time ≤ (1099511627776 : Int)) && !decide (c.a = (0 : Int))] ∧
  (decide ((0 : Int) ≤ c.time) && decide (c.time ≤ (1099511627776 : Int)) && !decide (c.a = (0 : Int)) && !decide (c.b = (0 : Int))) = soundF (CruR.mk c.time c.a c.b c.c c.d c.e c.f c.g) ∧
  (true && true) = true := by
  simp only [↓sw_iff, ↓Bool.and_eq_true, ↓Bool.and_eq_false_iff, ↓decide_eq_true_eq, ↓decide_eq_false_iff_not, ↓Bool.not_eq_true', ↓Bool.not_eq_false', true_and, and_true, implies_true]
  intro c
  simp [soundF]
set_option maxRecDepth 100000 in
theorem ok61 : FnIs Try.prog 61 soundC := by
  refine fnIs (C := (ctrs c0)) (by kernel_rfl) c0_ok Try.func61 (code := code61) (by kernel_rfl) (by kernel_rfl) ?_
  rintro a ⟨c, rfl⟩
  exact ⟨anns [], kcast (vc61 c) (by kernel_rfl)⟩

noncomputable def code63 : Code := match Try.f63.body with | some c => c | none => .skip
set_option maxHeartbeats 4000000 in
theorem vc63 : ∀ (k : Int) (b : List Int), b.length ≤ (1048576 : Nat) → okB b → (∃ (b_1 : List Int), ∃ (n : Int), ∃ (k_1 : Nat), [O.d (D.ints IntKind.u8 []), O.d (D.v (Value.int IntKind.u64 k)), O.d (D.v (Value.int IntKind.i64 (8 : Int)))] = [O.d (D.ints IntKind.u8 b_1), O.d (D.v (Value.int IntKind.u64 n)), O.d (D.v (Value.int IntKind.i64 (↑k_1 : Int)))] ∧
  sm b_1.length ∧ (1 : Nat) ≤ k_1 ∧ k_1 ≤ (8 : Nat)) ∧ True ∧ ((0 : Int) ≤ (0 : Int) ∧ (0 : Int) < (↑(3 : Nat) : Int)) ∧ True ∧ True ∧ True ∧ True ∧ ((0 : Int) ≤ IntKind.i64.wrap ((0 : Int) + (1 : Int)) ∧
  IntKind.i64.wrap ((0 : Int) + (1 : Int)) < (↑(3 : Nat) : Int)) ∧ True ∧ True ∧ sw (decide (IntKind.i64.wrap (IntKind.i64.wrap ((0 : Int) + (↑(8 : Nat) : Int)) + (↑b.length : Int)) < (0 : Int))) False (True ∧
  True ∧ ((0 : Int) ≤ IntKind.i64.wrap (IntKind.i64.wrap ((0 : Int) + (1 : Int)) + (1 : Int)) ∧ IntKind.i64.wrap (IntKind.i64.wrap ((0 : Int) + (1 : Int)) + (1 : Int)) < (↑(3 : Nat) : Int)) ∧
  True ∧ True ∧ sw (decide (IntKind.i64.wrap (IntKind.i64.wrap (IntKind.i64.wrap ((0 : Int) + (↑(8 : Nat) : Int)) + (↑b.length : Int)) + (↑(8 : Nat) : Int)) < (0 : Int))) False (True ∧
  True ∧ True ∧ sw (decide (IntKind.i64.wrap (IntKind.i64.wrap (IntKind.i64.wrap ((0 : Int) + (↑(8 : Nat) : Int)) + (↑b.length : Int)) + (↑(8 : Nat) : Int)) < (0 : Int))) False (True ∧
  True ∧ True ∧ sw (decide ((0 : Int) < IntKind.i64.wrap (IntKind.i64.wrap (IntKind.i64.wrap (IntKind.i64.wrap ((0 : Int) + (↑(8 : Nat) : Int)) + (↑b.length : Int)) + (↑(8 : Nat) : Int)) - IntKind.i64.wrap ((0 : Int) - (0 : Int))))) ((0 : Int) = (0 : Int) ∧
  ((0 : Int) ≤ IntKind.i64.wrap (IntKind.i64.wrap (IntKind.i64.wrap (IntKind.i64.wrap ((0 : Int) + (↑(8 : Nat) : Int)) + (↑b.length : Int)) + (↑(8 : Nat) : Int)) - IntKind.i64.wrap ((0 : Int) - (0 : Int))) ∧
  IntKind.i64.wrap (IntKind.i64.wrap (IntKind.i64.wrap (IntKind.i64.wrap ((0 : Int) + (↑(8 : Nat) : Int)) + (↑b.length : Int)) + (↑(8 : Nat) : Int)) - IntKind.i64.wrap ((0 : Int) - (0 : Int))) ≤ (9223372036854775807 : Int) ∧
  (IntKind.i64.wrap (IntKind.i64.wrap (IntKind.i64.wrap (IntKind.i64.wrap ((0 : Int) + (↑(8 : Nat) : Int)) + (↑b.length : Int)) + (↑(8 : Nat) : Int)) - IntKind.i64.wrap ((0 : Int) - (0 : Int)))).toNat * Try.prog.types[(5 : Nat)].bytes ≤ (281474976710656 : Nat) ∧
  IntKind.u8 = IntKind.u8) ∧ (List.replicate (IntKind.i64.wrap (IntKind.i64.wrap (IntKind.i64.wrap (IntKind.i64.wrap ((0 : Int) + (↑(8 : Nat) : Int)) + (↑b.length : Int)) + (↑(8 : Nat) : Int)) - IntKind.i64.wrap ((0 : Int) - (0 : Int)))).toNat (0 : Int)).length * Try.prog.types[(5 : Nat)].bytes ≤ (140737488355328 : Nat) ∧
  True ∧ ((0 : Int) ≤ (0 : Int) ∧ (0 : Int) < (↑(3 : Nat) : Int)) ∧ True ∧ (8 : Nat) ≤ (140737488355328 : Nat) ∧ True ∧ True ∧ ((0 : Int) ≤ IntKind.i64.wrap ((0 : Int) + (1 : Int)) ∧
  IntKind.i64.wrap ((0 : Int) + (1 : Int)) < (↑(3 : Nat) : Int)) ∧ True ∧ ((8 : Nat) + b.length) * Try.prog.types[(5 : Nat)].bytes ≤ (140737488355328 : Nat) ∧
  True ∧ True ∧ ((0 : Int) ≤ IntKind.i64.wrap (IntKind.i64.wrap ((0 : Int) + (1 : Int)) + (1 : Int)) ∧ IntKind.i64.wrap (IntKind.i64.wrap ((0 : Int) + (1 : Int)) + (1 : Int)) < (↑(3 : Nat) : Int)) ∧
  True ∧ (([] ++ ([] ++ be k (Int.toNat (8 : Int))) ++ b).length + (8 : Nat)) * Try.prog.types[(5 : Nat)].bytes ≤ (140737488355328 : Nat) ∧ True ∧ True ∧
  (∃ (b_1 : List Int), [O.d (D.ints IntKind.u8 ([] ++ ([] ++ be k (Int.toNat (8 : Int))) ++ b ++ ([] ++ be k (Int.toNat (8 : Int)))))] = [O.d (D.ints IntKind.u8 b_1)] ∧
  sm b_1.length ∧ okB b_1) ∧ IntKind.u64.wrap (sumF ([] ++ ([] ++ be k (Int.toNat (8 : Int))) ++ b ++ ([] ++ be k (Int.toNat (8 : Int))))) = keyF k b ∧ (true && true) = true) (True ∧
  ((0 : Int) ≤ (0 : Int) ∧ (0 : Int) < (↑(3 : Nat) : Int)) ∧ True ∧ (8 : Nat) ≤ (140737488355328 : Nat) ∧ True ∧ True ∧ ((0 : Int) ≤ IntKind.i64.wrap ((0 : Int) + (1 : Int)) ∧
  IntKind.i64.wrap ((0 : Int) + (1 : Int)) < (↑(3 : Nat) : Int)) ∧ True ∧ ((8 : Nat) + b.length) * Try.prog.types[(5 : Nat)].bytes ≤ (140737488355328 : Nat) ∧
  True ∧ True ∧ ((0 : Int) ≤ IntKind.i64.wrap (IntKind.i64.wrap ((0 : Int) + (1 : Int)) + (1 : Int)) ∧ IntKind.i64.wrap (IntKind.i64.wrap ((0 : Int) + (1 : Int)) + (1 : Int)) < (↑(3 : Nat) : Int)) ∧
  True ∧ (([] ++ be k (Int.toNat (8 : Int)) ++ b).length + (8 : Nat)) * Try.prog.types[(5 : Nat)].bytes ≤ (140737488355328 : Nat) ∧ True ∧ True ∧ (∃ (b_1 : List Int), [O.d (D.ints IntKind.u8 ([] ++ be k (Int.toNat (8 : Int)) ++ b ++ ([] ++ be k (Int.toNat (8 : Int)))))] = [O.d (D.ints IntKind.u8 b_1)] ∧
  sm b_1.length ∧ okB b_1) ∧ IntKind.u64.wrap (sumF ([] ++ be k (Int.toNat (8 : Int)) ++ b ++ ([] ++ be k (Int.toNat (8 : Int))))) = keyF k b ∧ (true && true) = true)))) := by
  simp only [↓sw_iff, ↓Bool.and_eq_true, ↓decide_eq_true_eq, ↓decide_eq_false_iff_not, true_and, and_true, List.nil_append, List.length_append, Nat.mul_one, bytes5, toNat8, be_len, wrap_sum]
  intro k b h hb
  have w1 : IntKind.i64.wrap (0 + 1) = 1 := by decide
  have w2 : IntKind.i64.wrap (1 + 1) = 2 := by decide
  have w3 : IntKind.i64.wrap (0 + ((8 : Nat) : Int)) = 8 := by decide
  have w4 : IntKind.i64.wrap (0 - 0) = 0 := by decide
  have w5 : IntKind.i64.wrap (8 + (b.length : Int)) = 8 + (b.length : Int) := wrap_i64_id (by omega) (by omega)
  have w6 : IntKind.i64.wrap (8 + (b.length : Int) + ((8 : Nat) : Int)) = 8 + (b.length : Int) + 8 := wrap_i64_id (by omega) (by omega)
  have w7 : IntKind.i64.wrap (8 + (b.length : Int) + 8 - 0) = 8 + (b.length : Int) + 8 - 0 := wrap_i64_id (by omega) (by omega)
  simp only [w1, w2, w3, w4, w5, w6, w7]
  have hs := key_small h k
  have e : ∃ b_1, [O.d (D.ints IntKind.u8 (be k 8 ++ b ++ be k 8))] = [O.d (D.ints IntKind.u8 b_1)] ∧ sm b_1.length ∧ okB b_1 := ⟨_, rfl, by unfold sm; omega, key_okB hb k⟩
  refine ⟨⟨[], k, 8, rfl, by simp [sm], by omega, by omega⟩, by omega, by omega, fun x => by omega, fun _ => ⟨by omega, fun x => by omega, fun _ => ⟨fun x => by omega, fun _ => ⟨fun _ => ?_, fun _ => ?_⟩⟩⟩⟩
  · exact ⟨⟨by omega, by omega, by omega⟩, by simp only [List.length_replicate]; omega, by omega, by omega, by omega, by omega, by omega, by omega, e, rfl⟩
  · exact ⟨by omega, by omega, by omega, by omega, by omega, by omega, e, rfl⟩
set_option maxRecDepth 100000 in
theorem ok63 : FnIs Try.prog 63 keyC := by
  refine fnIs (C := (ctrsJ Try.prog k4 i63 2)) (by kernel_rfl) (cokJ (by kernel_rfl) k4_ok i63_ok) Try.func63 (code := code63) (by kernel_rfl) (by kernel_rfl) ?_
  rintro a ⟨k, b, rfl, h, hb⟩
  exact ⟨anns [], kcast (vc63 k b h hb) (by kernel_rfl)⟩

end Go.ZR

/- Cookies: contracts of the callees. -/
namespace Go.ZM
open Go.Z Go.ZR
def fldL (b : List Int) (i : Nat) : List Int := (List.range 7).map fun j => if j < i then nAt b ((8 + 4 * j : Nat) : Int) 4 else 0
end Go.ZM
namespace Go.ZR
open Go.Z Go.ZM Go.Proofs
theorem k5_ok : COk Try.prog (ctrs k5) := cok_cons ok61 (cok_cons ok45 (cok_cons ok63 cok_nil))
theorem k6_ok : COk Try.prog (ctrs k6) := cok_cons ok65 (cok_cons ok63 (cok_cons ok61 cok_nil))
def fldAnn (s t : Nat) (b : List Int) : LoopAnn where
  γ := Nat
  pre := fun i => i ≤ 7
  μ := fun i => 7 - i
  items := fun i => [(s, .c (iO .i64 (i : Int))), (t, .c (.arr 106 .u32 (fldL b i)))]
end Go.ZR

/- Cookies sealed and opened: walked. -/
namespace Go.ZR
open Go.Proofs
open Go.Z Go.ZM Go.RowKit
set_option maxRecDepth 100000
theorem be_u64 (n : Int) : ∀ {k : Nat}, k ≤ 8 → be (IntKind.u64.wrap n) k = be n k
  | 0, _ => rfl
  | k + 1, h => by
    rw [be, be, be_u64 n (by omega)]
    congr 1
    rw [IntKind.wrap_u64]
    obtain ⟨j, hj⟩ : ∃ j : Nat, (18446744073709551616 : Int) = 256 ^ k * (256 * 256 ^ j) := ⟨7 - k, by
      rw [← Int.mul_assoc, ← Int.pow_succ, ← Int.pow_add, show k + 1 + (7 - k) = 8 by omega]; rfl⟩
    have e := Int.emod_add_mul_ediv n 18446744073709551616
    have q : ∀ q : Int, 18446744073709551616 * q = 256 ^ k * (256 * (256 ^ j * q)) := fun q => by rw [hj, Int.mul_assoc, Int.mul_assoc]
    have : n / 256 ^ k = (n % 18446744073709551616) / 256 ^ k + 256 * (256 ^ j * (n / 18446744073709551616)) := by
      conv => lhs; rw [← e, q]
      rw [Int.add_mul_ediv_left _ _ (by have := pow_pos' k; omega)]
    rw [this, Int.add_mul_emod_self_left]
theorem be_w8 (n : Int) : be (IntKind.u64.wrap n) 8 = be n 8 := be_u64 n (by decide)
theorem be_w4 (n : Int) : be (IntKind.u64.wrap n) 4 = be n 4 := be_u64 n (by decide)
theorem wr1 : IntKind.i64.wrap (0 + 1) = 1 := by decide
theorem wr2 : IntKind.i64.wrap (1 + 1) = 2 := by decide
theorem wr3 : IntKind.i64.wrap (2 + 1) = 3 := by decide
theorem wr4 : IntKind.i64.wrap (3 + 1) = 4 := by decide
theorem wr5 : IntKind.i64.wrap (4 + 1) = 5 := by decide
theorem wr6 : IntKind.i64.wrap (5 + 1) = 6 := by decide
theorem wr7 : IntKind.i64.wrap (6 + 1) = 7 := by decide
theorem cru_eta (c : CruR) : CruR.mk c.time c.a c.b c.c c.d c.e c.f c.g = c := by cases c; rfl
theorem cruB_len (c : CruR) : (cruB c).length = 36 := by simp [cruB, be_len]
theorem cruB_okB (c : CruR) : okB (cruB c) := okB_append (okB_append (okB_append (okB_append (okB_append (okB_append (okB_append (be_ok _ _) (be_ok _ _)) (be_ok _ _)) (be_ok _ _)) (be_ok _ _)) (be_ok _ _)) (be_ok _ _)) (be_ok _ _)
theorem putP (b : List Int) (n : Int) {k : Nat} (h : b.length ≤ 1048576) (h1 : 1 ≤ k) (h2 : k ≤ 8) :
    ∃ (b' : List Int) (n' : Int) (k' : Nat), [O.d (D.ints IntKind.u8 b), O.d (D.v (Value.int IntKind.u64 n)), O.d (D.v (Value.int IntKind.i64 (k : Int)))] = [O.d (D.ints IntKind.u8 b'), O.d (D.v (Value.int IntKind.u64 n')), O.d (D.v (Value.int IntKind.i64 (k' : Int)))] ∧ sm b'.length ∧ 1 ≤ k' ∧ k' ≤ 8 :=
  ⟨b, n, k, rfl, by unfold sm; omega, h1, h2⟩
theorem nAt_rng {v : List Int} (hv : okB v) (i : Int) {k : Nat} : 0 ≤ nAt v i k ∧ nAt v i k < 256 ^ k := by
  unfold nAt getF
  have h1 := part_ok hv i (k : Int)
  have h2 := val_lt h1
  have h3 := part_len (b := v) (i := i) (k := k)
  have h4 : ∀ a b : Nat, a ≤ b → (256 : Int) ^ a ≤ 256 ^ b := fun a b h => by
    obtain ⟨c, rfl⟩ := Nat.exists_eq_add_of_le h
    rw [Int.pow_add]
    have := pow_pos' a; have h5 := pow_pos' c
    calc (256 : Int) ^ a = 256 ^ a * 1 := by rw [Int.mul_one]
      _ ≤ 256 ^ a * 256 ^ c := Int.mul_le_mul_of_nonneg_left (by omega) (by omega)
  have := h4 _ _ h3
  exact ⟨val_nonneg h1, by omega⟩
theorem nAt4 {v : List Int} (hv : okB v) (i : Int) : IntKind.u32.wrap (nAt v i 4) = nAt v i 4 := by
  have h := nAt_rng hv i (k := 4)
  rw [show (256 : Int) ^ 4 = 4294967296 from rfl] at h
  rw [IntKind.wrap_u32]; omega
theorem nAt_eq (v : List Int) (i : Int) (k : Nat) : valF (partF v i (k : Int)).1 = nAt v i k := rfl
theorem fld_rng (i : Nat) (h : i < 7) : IntKind.i64.wrap (8 + IntKind.i64.wrap (4 * (i : Int))) = ((8 + 4 * i : Nat) : Int) := by
  rw [IntKind.wrap_i64, IntKind.wrap_i64]; omega
theorem fa0 : IntKind.i64.wrap (8 + IntKind.i64.wrap (4 * 0)) = 8 := by decide
theorem fa1 : IntKind.i64.wrap (8 + IntKind.i64.wrap (4 * 1)) = 12 := by decide
theorem fa2 : IntKind.i64.wrap (8 + IntKind.i64.wrap (4 * 2)) = 16 := by decide
theorem fa3 : IntKind.i64.wrap (8 + IntKind.i64.wrap (4 * 3)) = 20 := by decide
theorem fa4 : IntKind.i64.wrap (8 + IntKind.i64.wrap (4 * 4)) = 24 := by decide
theorem fa5 : IntKind.i64.wrap (8 + IntKind.i64.wrap (4 * 5)) = 28 := by decide
theorem fa6 : IntKind.i64.wrap (8 + IntKind.i64.wrap (4 * 6)) = 32 := by decide
theorem open_lt {k : Int} {b : List Int} (h : (b.length : Int) < 40) : openF k b = (noCru, 3) := by unfold openF; rw [if_pos (by omega)]
theorem open_gt {k : Int} {b : List Int} (h : 40 < (b.length : Int)) : openF k b = (noCru, 2) := by unfold openF; rw [if_neg (by omega), if_pos (by omega)]
theorem open_sum {k : Int} {b : List Int} (h : b.length = 40) (e : ¬ nAt b 36 4 = keyF k (b.take 36)) : openF k b = (noCru, 5) := by
  unfold openF; rw [if_neg (by omega), if_neg (by omega), if_pos e]
theorem open_bad {k : Int} {b : List Int} (h : b.length = 40) (e : nAt b 36 4 = keyF k (b.take 36)) (hs : ¬ soundF (cruOf b) = true) : openF k b = (noCru, 2) := by
  unfold openF; rw [if_neg (by omega), if_neg (by omega), if_neg (by simpa using e), if_neg hs]
theorem open_ok {k : Int} {b : List Int} (h : b.length = 40) (e : nAt b 36 4 = keyF k (b.take 36)) (hs : soundF (cruOf b) = true) : openF k b = (cruOf b, 0) := by
  unfold openF; rw [if_neg (by omega), if_neg (by omega), if_neg (by simpa using e), if_pos hs]
theorem wrap_sum_i (l : List Int) : IntKind.i64.wrap (sumF l) = sumF l := by
  have := iv_rng (~~~ crcR (~~~ bv 0) l)
  unfold sumF moreF
  rw [IntKind.wrap_i64]; omega
theorem fldL_zero (b : List Int) : List.replicate 7 0 = fldL b 0 := rfl
theorem fldL_set (b : List Int) {g : Nat} (_hg : g < 7) : (fldL b g).set g (nAt b ((8 + 4 * g : Nat) : Int) 4) = fldL b (g + 1) := by
  unfold fldL
  apply List.ext_getElem (by simp)
  intro i h1 h2
  rw [List.getElem_set]
  simp only [List.getElem_map, List.getElem_range]
  by_cases e : g = i
  · subst e
    rw [if_pos rfl, if_pos (by omega)]
  · rw [if_neg e]
    by_cases l : i < g
    · rw [if_pos l, if_pos (by omega)]
    · rw [if_neg l, if_neg (by omega)]
theorem sound_iff (b : List Int) (hb : okB b) : soundF (cruOf b) = true ↔ nAt b 0 8 ≤ 1099511627776 ∧ nAt b 8 4 ≠ 0 ∧ nAt b 12 4 ≠ 0 := by
  have h := nAt_rng hb 0 (k := 8)
  rw [show (256 : Int) ^ 8 = 18446744073709551616 from rfl] at h
  simp only [soundF, cruOf, sI, Bool.and_eq_true, decide_eq_true_eq, Bool.not_eq_true', decide_eq_false_iff_not, IntKind.wrap_i64]
  omega
noncomputable def code39 : Code := match Try.f39.body with | some c => c | none => .skip
set_option maxHeartbeats 4000000 in
theorem vc39 : ∀ (k : Int) (c : CruR), okCru c → (∃ (c_1 : CruR), [O.agg [O.d (D.v (Value.int IntKind.i64 c.time)), O.d (D.v (Value.int IntKind.u32 c.a)), O.d (D.v (Value.int IntKind.u32 c.b)), O.d (D.v (Value.int IntKind.u32 c.c)), O.d (D.v (Value.int IntKind.u32 c.d)), O.d (D.v (Value.int IntKind.u32 c.e)), O.d (D.v (Value.int IntKind.u32 c.f)), O.d (D.v (Value.int IntKind.u32 c.g))]] = [O.agg [O.d (D.v (Value.int IntKind.i64 c_1.time)), O.d (D.v (Value.int IntKind.u32 c_1.a)), O.d (D.v (Value.int IntKind.u32 c_1.b)), O.d (D.v (Value.int IntKind.u32 c_1.c)), O.d (D.v (Value.int IntKind.u32 c_1.d)), O.d (D.v (Value.int IntKind.u32 c_1.e)), O.d (D.v (Value.int IntKind.u32 c_1.f)), O.d (D.v (Value.int IntKind.u32 c_1.g))]]) ∧
  sw (!soundF (CruR.mk c.time c.a c.b c.c c.d c.e c.f c.g)) ((sealF k (CruR.mk c.time c.a c.b c.c c.d c.e c.f c.g)).fst = [] ∧ (1 : Int) = (sealF k (CruR.mk c.time c.a c.b c.c c.d c.e c.f c.g)).snd ∧
  (true && true) = true) ((∃ (b : List Int), ∃ (n : Int), ∃ (k_1 : Nat), [O.d (D.ints IntKind.u8 []), O.d (D.v (Value.int IntKind.u64 (IntKind.u64.wrap c.time))), O.d (D.v (Value.int IntKind.i64 (8 : Int)))] = [O.d (D.ints IntKind.u8 b), O.d (D.v (Value.int IntKind.u64 n)), O.d (D.v (Value.int IntKind.i64 (↑k_1 : Int)))] ∧
  sm b.length ∧ (1 : Nat) ≤ k_1 ∧ k_1 ≤ (8 : Nat)) ∧ (True ∧ ((0 : Int) ≤ (0 : Int) ∧ (0 : Int) < (↑(7 : Nat) : Int)) ∧ (∃ (b : List Int), ∃ (n : Int), ∃ (k_1 : Nat), [O.d (D.ints IntKind.u8 ([] ++ be (IntKind.u64.wrap c.time) (Int.toNat (8 : Int)))), O.d (D.v (Value.int IntKind.u64 (IntKind.u64.wrap c.a))), O.d (D.v (Value.int IntKind.i64 (4 : Int)))] = [O.d (D.ints IntKind.u8 b), O.d (D.v (Value.int IntKind.u64 n)), O.d (D.v (Value.int IntKind.i64 (↑k_1 : Int)))] ∧
  sm b.length ∧ (1 : Nat) ≤ k_1 ∧ k_1 ≤ (8 : Nat)) ∧ True ∧ True ∧ ((0 : Int) ≤ IntKind.i64.wrap ((0 : Int) + (1 : Int)) ∧ IntKind.i64.wrap ((0 : Int) + (1 : Int)) < (↑(7 : Nat) : Int)) ∧
  (∃ (b : List Int), ∃ (n : Int), ∃ (k_1 : Nat), [O.d (D.ints IntKind.u8 ([] ++ be (IntKind.u64.wrap c.time) (Int.toNat (8 : Int)) ++ be (IntKind.u64.wrap c.a) (Int.toNat (4 : Int)))), O.d (D.v (Value.int IntKind.u64 (IntKind.u64.wrap c.b))), O.d (D.v (Value.int IntKind.i64 (4 : Int)))] = [O.d (D.ints IntKind.u8 b), O.d (D.v (Value.int IntKind.u64 n)), O.d (D.v (Value.int IntKind.i64 (↑k_1 : Int)))] ∧
  sm b.length ∧ (1 : Nat) ≤ k_1 ∧ k_1 ≤ (8 : Nat)) ∧ True ∧ True ∧ ((0 : Int) ≤ IntKind.i64.wrap (IntKind.i64.wrap ((0 : Int) + (1 : Int)) + (1 : Int)) ∧
  IntKind.i64.wrap (IntKind.i64.wrap ((0 : Int) + (1 : Int)) + (1 : Int)) < (↑(7 : Nat) : Int)) ∧ (∃ (b : List Int), ∃ (n : Int), ∃ (k_1 : Nat), [O.d (D.ints IntKind.u8 ([] ++ be (IntKind.u64.wrap c.time) (Int.toNat (8 : Int)) ++ be (IntKind.u64.wrap c.a) (Int.toNat (4 : Int)) ++ be (IntKind.u64.wrap c.b) (Int.toNat (4 : Int)))), O.d (D.v (Value.int IntKind.u64 (IntKind.u64.wrap c.c))), O.d (D.v (Value.int IntKind.i64 (4 : Int)))] = [O.d (D.ints IntKind.u8 b), O.d (D.v (Value.int IntKind.u64 n)), O.d (D.v (Value.int IntKind.i64 (↑k_1 : Int)))] ∧
  sm b.length ∧ (1 : Nat) ≤ k_1 ∧ k_1 ≤ (8 : Nat)) ∧ True ∧ True ∧ ((0 : Int) ≤ IntKind.i64.wrap (IntKind.i64.wrap (IntKind.i64.wrap ((0 : Int) + (1 : Int)) + (1 : Int)) + (1 : Int)) ∧
  IntKind.i64.wrap (IntKind.i64.wrap (IntKind.i64.wrap ((0 : Int) + (1 : Int)) + (1 : Int)) + (1 : Int)) < (↑(7 : Nat) : Int)) ∧ (∃ (b : List Int), ∃ (n : Int), ∃ (k_1 : Nat), [O.d (D.ints IntKind.u8 ([] ++ be (IntKind.u64.wrap c.time) (Int.toNat (8 : Int)) ++ be (IntKind.u64.wrap c.a) (Int.toNat (4 : Int)) ++ be (IntKind.u64.wrap c.b) (Int.toNat (4 : Int)) ++ be (IntKind.u64.wrap c.c) (Int.toNat (4 : Int)))), O.d (D.v (Value.int IntKind.u64 (IntKind.u64.wrap c.d))), O.d (D.v (Value.int IntKind.i64 (4 : Int)))] = [O.d (D.ints IntKind.u8 b), O.d (D.v (Value.int IntKind.u64 n)), O.d (D.v (Value.int IntKind.i64 (↑k_1 : Int)))] ∧
  sm b.length ∧ (1 : Nat) ≤ k_1 ∧ k_1 ≤ (8 : Nat)) ∧ True ∧ True ∧ ((0 : Int) ≤ IntKind.i64.wrap (IntKind.i64.wrap (IntKind.i64.wrap (IntKind.i64.wrap ((0 : Int) + (1 : Int)) + (1 : Int)) + (1 : Int)) + (1 : Int)) ∧
  IntKind.i64.wrap (IntKind.i64.wrap (IntKind.i64.wrap (IntKind.i64.wrap ((0 : Int) + (1 : Int)) + (1 : Int)) + (1 : Int)) + (1 : Int)) < (↑(7 : Nat) : Int)) ∧
  (∃ (b : List Int), ∃ (n : Int), ∃ (k_1 : Nat), [O.d (D.ints IntKind.u8 ([] ++ be (IntKind.u64.wrap c.time) (Int.toNat (8 : Int)) ++ be (IntKind.u64.wrap c.a) (Int.toNat (4 : Int)) ++ be (IntKind.u64.wrap c.b) (Int.toNat (4 : Int)) ++ be (IntKind.u64.wrap c.c) (Int.toNat (4 : Int)) ++ be (IntKind.u64.wrap c.d) (Int.toNat (4 : Int)))), O.d (D.v (Value.int IntKind.u64 (IntKind.u64.wrap c.e))), O.d (D.v (Value.int IntKind.i64 (4 : Int)))] = [O.d (D.ints IntKind.u8 b), O.d (D.v (Value.int IntKind.u64 n)), O.d (D.v (Value.int IntKind.i64 (↑k_1 : Int)))] ∧
  sm b.length ∧ (1 : Nat) ≤ k_1 ∧ k_1 ≤ (8 : Nat)) ∧ True ∧ True ∧ ((0 : Int) ≤ IntKind.i64.wrap (IntKind.i64.wrap (IntKind.i64.wrap (IntKind.i64.wrap (IntKind.i64.wrap ((0 : Int) + (1 : Int)) + (1 : Int)) + (1 : Int)) + (1 : Int)) + (1 : Int)) ∧
  IntKind.i64.wrap (IntKind.i64.wrap (IntKind.i64.wrap (IntKind.i64.wrap (IntKind.i64.wrap ((0 : Int) + (1 : Int)) + (1 : Int)) + (1 : Int)) + (1 : Int)) + (1 : Int)) < (↑(7 : Nat) : Int)) ∧
  (∃ (b : List Int), ∃ (n : Int), ∃ (k_1 : Nat), [O.d (D.ints IntKind.u8 ([] ++ be (IntKind.u64.wrap c.time) (Int.toNat (8 : Int)) ++ be (IntKind.u64.wrap c.a) (Int.toNat (4 : Int)) ++ be (IntKind.u64.wrap c.b) (Int.toNat (4 : Int)) ++ be (IntKind.u64.wrap c.c) (Int.toNat (4 : Int)) ++ be (IntKind.u64.wrap c.d) (Int.toNat (4 : Int)) ++ be (IntKind.u64.wrap c.e) (Int.toNat (4 : Int)))), O.d (D.v (Value.int IntKind.u64 (IntKind.u64.wrap c.f))), O.d (D.v (Value.int IntKind.i64 (4 : Int)))] = [O.d (D.ints IntKind.u8 b), O.d (D.v (Value.int IntKind.u64 n)), O.d (D.v (Value.int IntKind.i64 (↑k_1 : Int)))] ∧
  sm b.length ∧ (1 : Nat) ≤ k_1 ∧ k_1 ≤ (8 : Nat)) ∧ True ∧ True ∧ ((0 : Int) ≤ IntKind.i64.wrap (IntKind.i64.wrap (IntKind.i64.wrap (IntKind.i64.wrap (IntKind.i64.wrap (IntKind.i64.wrap ((0 : Int) + (1 : Int)) + (1 : Int)) + (1 : Int)) + (1 : Int)) + (1 : Int)) + (1 : Int)) ∧
  IntKind.i64.wrap (IntKind.i64.wrap (IntKind.i64.wrap (IntKind.i64.wrap (IntKind.i64.wrap (IntKind.i64.wrap ((0 : Int) + (1 : Int)) + (1 : Int)) + (1 : Int)) + (1 : Int)) + (1 : Int)) + (1 : Int)) < (↑(7 : Nat) : Int)) ∧
  (∃ (b : List Int), ∃ (n : Int), ∃ (k_1 : Nat), [O.d (D.ints IntKind.u8 ([] ++ be (IntKind.u64.wrap c.time) (Int.toNat (8 : Int)) ++ be (IntKind.u64.wrap c.a) (Int.toNat (4 : Int)) ++ be (IntKind.u64.wrap c.b) (Int.toNat (4 : Int)) ++ be (IntKind.u64.wrap c.c) (Int.toNat (4 : Int)) ++ be (IntKind.u64.wrap c.d) (Int.toNat (4 : Int)) ++ be (IntKind.u64.wrap c.e) (Int.toNat (4 : Int)) ++ be (IntKind.u64.wrap c.f) (Int.toNat (4 : Int)))), O.d (D.v (Value.int IntKind.u64 (IntKind.u64.wrap c.g))), O.d (D.v (Value.int IntKind.i64 (4 : Int)))] = [O.d (D.ints IntKind.u8 b), O.d (D.v (Value.int IntKind.u64 n)), O.d (D.v (Value.int IntKind.i64 (↑k_1 : Int)))] ∧
  sm b.length ∧ (1 : Nat) ≤ k_1 ∧ k_1 ≤ (8 : Nat)) ∧ True ∧ True ∧ (∃ (k_1 : Int), ∃ (b : List Int), [O.d (D.v (Value.int IntKind.u64 k)), O.d (D.ints IntKind.u8 ([] ++ be (IntKind.u64.wrap c.time) (Int.toNat (8 : Int)) ++ be (IntKind.u64.wrap c.a) (Int.toNat (4 : Int)) ++ be (IntKind.u64.wrap c.b) (Int.toNat (4 : Int)) ++ be (IntKind.u64.wrap c.c) (Int.toNat (4 : Int)) ++ be (IntKind.u64.wrap c.d) (Int.toNat (4 : Int)) ++ be (IntKind.u64.wrap c.e) (Int.toNat (4 : Int)) ++ be (IntKind.u64.wrap c.f) (Int.toNat (4 : Int)) ++ be (IntKind.u64.wrap c.g) (Int.toNat (4 : Int))))] = [O.d (D.v (Value.int IntKind.u64 k_1)), O.d (D.ints IntKind.u8 b)] ∧
  b.length ≤ (1048576 : Nat) ∧ okB b) ∧ (∃ (b : List Int), ∃ (n : Int), ∃ (k_1 : Nat), [O.d (D.ints IntKind.u8 ([] ++ be (IntKind.u64.wrap c.time) (Int.toNat (8 : Int)) ++ be (IntKind.u64.wrap c.a) (Int.toNat (4 : Int)) ++ be (IntKind.u64.wrap c.b) (Int.toNat (4 : Int)) ++ be (IntKind.u64.wrap c.c) (Int.toNat (4 : Int)) ++ be (IntKind.u64.wrap c.d) (Int.toNat (4 : Int)) ++ be (IntKind.u64.wrap c.e) (Int.toNat (4 : Int)) ++ be (IntKind.u64.wrap c.f) (Int.toNat (4 : Int)) ++ be (IntKind.u64.wrap c.g) (Int.toNat (4 : Int)))), O.d (D.v (Value.int IntKind.u64 (keyF k ([] ++ be (IntKind.u64.wrap c.time) (Int.toNat (8 : Int)) ++ be (IntKind.u64.wrap c.a) (Int.toNat (4 : Int)) ++ be (IntKind.u64.wrap c.b) (Int.toNat (4 : Int)) ++ be (IntKind.u64.wrap c.c) (Int.toNat (4 : Int)) ++ be (IntKind.u64.wrap c.d) (Int.toNat (4 : Int)) ++ be (IntKind.u64.wrap c.e) (Int.toNat (4 : Int)) ++ be (IntKind.u64.wrap c.f) (Int.toNat (4 : Int)) ++ be (IntKind.u64.wrap c.g) (Int.toNat (4 : Int)))))), O.d (D.v (Value.int IntKind.i64 (4 : Int)))] = [O.d (D.ints IntKind.u8 b), O.d (D.v (Value.int IntKind.u64 n)), O.d (D.v (Value.int IntKind.i64 (↑k_1 : Int)))] ∧
  sm b.length ∧ (1 : Nat) ≤ k_1 ∧ k_1 ≤ (8 : Nat)) ∧ [] ++ be (IntKind.u64.wrap c.time) (Int.toNat (8 : Int)) ++ be (IntKind.u64.wrap c.a) (Int.toNat (4 : Int)) ++ be (IntKind.u64.wrap c.b) (Int.toNat (4 : Int)) ++ be (IntKind.u64.wrap c.c) (Int.toNat (4 : Int)) ++ be (IntKind.u64.wrap c.d) (Int.toNat (4 : Int)) ++ be (IntKind.u64.wrap c.e) (Int.toNat (4 : Int)) ++ be (IntKind.u64.wrap c.f) (Int.toNat (4 : Int)) ++ be (IntKind.u64.wrap c.g) (Int.toNat (4 : Int)) ++ be (keyF k ([] ++ be (IntKind.u64.wrap c.time) (Int.toNat (8 : Int)) ++ be (IntKind.u64.wrap c.a) (Int.toNat (4 : Int)) ++ be (IntKind.u64.wrap c.b) (Int.toNat (4 : Int)) ++ be (IntKind.u64.wrap c.c) (Int.toNat (4 : Int)) ++ be (IntKind.u64.wrap c.d) (Int.toNat (4 : Int)) ++ be (IntKind.u64.wrap c.e) (Int.toNat (4 : Int)) ++ be (IntKind.u64.wrap c.f) (Int.toNat (4 : Int)) ++ be (IntKind.u64.wrap c.g) (Int.toNat (4 : Int)))) (Int.toNat (4 : Int)) = (sealF k (CruR.mk c.time c.a c.b c.c c.d c.e c.f c.g)).fst ∧
  (0 : Int) = (sealF k (CruR.mk c.time c.a c.b c.c c.d c.e c.f c.g)).snd ∧ (!false && true && true) = true) ∧ True) := by
  simp only [↓sw_iff, ↓Bool.and_eq_true, ↓Bool.not_eq_true', ↓Bool.not_eq_false', true_and, and_true, List.nil_append, be_w8, be_w4, toNat8, toNat4, wr1, wr2, wr3, wr4, wr5, wr6, cru_eta]
  intro k c ok
  refine ⟨⟨c, rfl⟩, fun h => ?_, fun h => ?_⟩
  · unfold sealF
    rw [h]
    exact ⟨rfl, rfl⟩
  · have e : sealF k c = (sealB k c, 0) := by unfold sealF; rw [if_pos h]
    rw [e]
    repeat' apply And.intro
    all_goals first
      | omega
      | rfl
      | exact ⟨_, _, 8, rfl, by simp [sm], by omega, by omega⟩
      | exact ⟨_, _, 4, rfl, by simp [sm, be_len], by omega, by omega⟩
      | exact ⟨k, cruB c, rfl, by rw [cruB_len]; decide, cruB_okB c⟩
set_option maxRecDepth 100000 in
theorem ok39 : FnIs Try.prog 39 sealC := by
  refine fnIs (C := (ctrsJ Try.prog k5 i39 1)) (by kernel_rfl) (cokJ (by kernel_rfl) k5_ok i39_ok) Try.func39 (code := code39) (by kernel_rfl) (by kernel_rfl) ?_
  rintro a ⟨k, c, rfl, ok⟩
  exact ⟨anns [] [] [(5, 8)], kcast (vc39 k c ok) (by kernel_rfl)⟩

noncomputable def code40 : Code := match Try.f40.body with | some c => c | none => .skip
set_option maxHeartbeats 4000000 in
theorem vc40 : ∀ (k : Int) (c : CruR), okCru c → True ∧ sw (!decide (c.time < (0 : Int))) (SV.p (0 : Nat) (0 : Nat) = SV.p (0 : Nat) (0 : Nat)) True ∧ sw (!decide (c.time < (0 : Int))) ([!decide (c.time < (0 : Int))] = [!decide (c.time < (0 : Int))] ∧
  SV.c (Value.int IntKind.i64 c.time) = SV.c (Value.int IntKind.i64 c.time)) True ∧ sw (!decide (c.time < (0 : Int))) ([!decide (c.time < (0 : Int))] = [!decide (c.time < (0 : Int))] ∧
  True ∧ SV.c (Value.bool (decide ((1099511627776 : Int) < c.time))) = SV.c (Value.bool (decide ((1099511627776 : Int) < c.time)))) True ∧ [!decide (c.time < (0 : Int))] = [!decide (c.time < (0 : Int))] ∧
  sw (!(decide (c.time < (0 : Int)) || decide ((1099511627776 : Int) < c.time))) (SV.p (0 : Nat) (1 : Nat) = SV.p (0 : Nat) (1 : Nat)) True ∧ sw (!(decide (c.time < (0 : Int)) || decide ((1099511627776 : Int) < c.time))) ([!(decide (c.time < (0 : Int)) || decide ((1099511627776 : Int) < c.time))] = [!(decide (c.time < (0 : Int)) || decide ((1099511627776 : Int) < c.time))] ∧
  SV.c (Value.int IntKind.u32 c.a) = SV.c (Value.int IntKind.u32 c.a)) True ∧ sw (!(decide (c.time < (0 : Int)) || decide ((1099511627776 : Int) < c.time))) ([!(decide (c.time < (0 : Int)) || decide ((1099511627776 : Int) < c.time))] = [!(decide (c.time < (0 : Int)) || decide ((1099511627776 : Int) < c.time))] ∧
  True ∧ SV.c (Value.bool (decide (c.a = (0 : Int)))) = SV.c (Value.bool (decide (c.a = (0 : Int))))) True ∧ [!(decide (c.time < (0 : Int)) || decide ((1099511627776 : Int) < c.time))] = [!(decide (c.time < (0 : Int)) || decide ((1099511627776 : Int) < c.time))] ∧
  sw (!(decide (c.time < (0 : Int)) || decide ((1099511627776 : Int) < c.time) || decide (c.a = (0 : Int)))) (SV.p (0 : Nat) (2 : Nat) = SV.p (0 : Nat) (2 : Nat)) True ∧
  sw (!(decide (c.time < (0 : Int)) || decide ((1099511627776 : Int) < c.time) || decide (c.a = (0 : Int)))) ([!(decide (c.time < (0 : Int)) || decide ((1099511627776 : Int) < c.time) || decide (c.a = (0 : Int)))] = [!(decide (c.time < (0 : Int)) || decide ((1099511627776 : Int) < c.time) || decide (c.a = (0 : Int)))] ∧
  SV.c (Value.int IntKind.u32 c.b) = SV.c (Value.int IntKind.u32 c.b)) True ∧ sw (!(decide (c.time < (0 : Int)) || decide ((1099511627776 : Int) < c.time) || decide (c.a = (0 : Int)))) ([!(decide (c.time < (0 : Int)) || decide ((1099511627776 : Int) < c.time) || decide (c.a = (0 : Int)))] = [!(decide (c.time < (0 : Int)) || decide ((1099511627776 : Int) < c.time) || decide (c.a = (0 : Int)))] ∧
  True ∧ SV.c (Value.bool (decide (c.b = (0 : Int)))) = SV.c (Value.bool (decide (c.b = (0 : Int))))) True ∧ [!(decide (c.time < (0 : Int)) || decide ((1099511627776 : Int) < c.time) || decide (c.a = (0 : Int)))] = [!(decide (c.time < (0 : Int)) || decide ((1099511627776 : Int) < c.time) || decide (c.a = (0 : Int)))] ∧
  sw (decide (c.time < (0 : Int)) || decide ((1099511627776 : Int) < c.time) || decide (c.a = (0 : Int)) || decide (c.b = (0 : Int))) ((sealF k (CruR.mk c.time c.a c.b c.c c.d c.e c.f c.g)).fst = [] ∧
  (1 : Int) = (sealF k (CruR.mk c.time c.a c.b c.c c.d c.e c.f c.g)).snd ∧ (true && true) = true) ((∃ (b : List Int), ∃ (n : Int), ∃ (k_1 : Nat), [O.d (D.ints IntKind.u8 []), O.d (D.v (Value.int IntKind.u64 (IntKind.u64.wrap c.time))), O.d (D.v (Value.int IntKind.i64 (8 : Int)))] = [O.d (D.ints IntKind.u8 b), O.d (D.v (Value.int IntKind.u64 n)), O.d (D.v (Value.int IntKind.i64 (↑k_1 : Int)))] ∧
  sm b.length ∧ (1 : Nat) ≤ k_1 ∧ k_1 ≤ (8 : Nat)) ∧ (∃ (b : List Int), ∃ (n : Int), ∃ (k_1 : Nat), [O.d (D.ints IntKind.u8 ([] ++ be (IntKind.u64.wrap c.time) (Int.toNat (8 : Int)))), O.d (D.v (Value.int IntKind.u64 (IntKind.u64.wrap c.a))), O.d (D.v (Value.int IntKind.i64 (4 : Int)))] = [O.d (D.ints IntKind.u8 b), O.d (D.v (Value.int IntKind.u64 n)), O.d (D.v (Value.int IntKind.i64 (↑k_1 : Int)))] ∧
  sm b.length ∧ (1 : Nat) ≤ k_1 ∧ k_1 ≤ (8 : Nat)) ∧ (∃ (b : List Int), ∃ (n : Int), ∃ (k_1 : Nat), [O.d (D.ints IntKind.u8 ([] ++ be (IntKind.u64.wrap c.time) (Int.toNat (8 : Int)) ++ be (IntKind.u64.wrap c.a) (Int.toNat (4 : Int)))), O.d (D.v (Value.int IntKind.u64 (IntKind.u64.wrap c.b))), O.d (D.v (Value.int IntKind.i64 (4 : Int)))] = [O.d (D.ints IntKind.u8 b), O.d (D.v (Value.int IntKind.u64 n)), O.d (D.v (Value.int IntKind.i64 (↑k_1 : Int)))] ∧
  sm b.length ∧ (1 : Nat) ≤ k_1 ∧ k_1 ≤ (8 : Nat)) ∧ (∃ (b : List Int), ∃ (n : Int), ∃ (k_1 : Nat), [O.d (D.ints IntKind.u8 ([] ++ be (IntKind.u64.wrap c.time) (Int.toNat (8 : Int)) ++ be (IntKind.u64.wrap c.a) (Int.toNat (4 : Int)) ++ be (IntKind.u64.wrap c.b) (Int.toNat (4 : Int)))), O.d (D.v (Value.int IntKind.u64 (IntKind.u64.wrap c.c))), O.d (D.v (Value.int IntKind.i64 (4 : Int)))] = [O.d (D.ints IntKind.u8 b), O.d (D.v (Value.int IntKind.u64 n)), O.d (D.v (Value.int IntKind.i64 (↑k_1 : Int)))] ∧
  sm b.length ∧ (1 : Nat) ≤ k_1 ∧ k_1 ≤ (8 : Nat)) ∧ (∃ (b : List Int), ∃ (n : Int), ∃ (k_1 : Nat), [O.d (D.ints IntKind.u8 ([] ++ be (IntKind.u64.wrap c.time) (Int.toNat (8 : Int)) ++ be (IntKind.u64.wrap c.a) (Int.toNat (4 : Int)) ++ be (IntKind.u64.wrap c.b) (Int.toNat (4 : Int)) ++ be (IntKind.u64.wrap c.c) (Int.toNat (4 : Int)))), O.d (D.v (Value.int IntKind.u64 (IntKind.u64.wrap c.d))), O.d (D.v (Value.int IntKind.i64 (4 : Int)))] = [O.d (D.ints IntKind.u8 b), O.d (D.v (Value.int IntKind.u64 n)), O.d (D.v (Value.int IntKind.i64 (↑k_1 : Int)))] ∧
  sm b.length ∧ (1 : Nat) ≤ k_1 ∧ k_1 ≤ (8 : Nat)) ∧ (∃ (b : List Int), ∃ (n : Int), ∃ (k_1 : Nat), [O.d (D.ints IntKind.u8 ([] ++ be (IntKind.u64.wrap c.time) (Int.toNat (8 : Int)) ++ be (IntKind.u64.wrap c.a) (Int.toNat (4 : Int)) ++ be (IntKind.u64.wrap c.b) (Int.toNat (4 : Int)) ++ be (IntKind.u64.wrap c.c) (Int.toNat (4 : Int)) ++ be (IntKind.u64.wrap c.d) (Int.toNat (4 : Int)))), O.d (D.v (Value.int IntKind.u64 (IntKind.u64.wrap c.e))), O.d (D.v (Value.int IntKind.i64 (4 : Int)))] = [O.d (D.ints IntKind.u8 b), O.d (D.v (Value.int IntKind.u64 n)), O.d (D.v (Value.int IntKind.i64 (↑k_1 : Int)))] ∧
  sm b.length ∧ (1 : Nat) ≤ k_1 ∧ k_1 ≤ (8 : Nat)) ∧ (∃ (b : List Int), ∃ (n : Int), ∃ (k_1 : Nat), [O.d (D.ints IntKind.u8 ([] ++ be (IntKind.u64.wrap c.time) (Int.toNat (8 : Int)) ++ be (IntKind.u64.wrap c.a) (Int.toNat (4 : Int)) ++ be (IntKind.u64.wrap c.b) (Int.toNat (4 : Int)) ++ be (IntKind.u64.wrap c.c) (Int.toNat (4 : Int)) ++ be (IntKind.u64.wrap c.d) (Int.toNat (4 : Int)) ++ be (IntKind.u64.wrap c.e) (Int.toNat (4 : Int)))), O.d (D.v (Value.int IntKind.u64 (IntKind.u64.wrap c.f))), O.d (D.v (Value.int IntKind.i64 (4 : Int)))] = [O.d (D.ints IntKind.u8 b), O.d (D.v (Value.int IntKind.u64 n)), O.d (D.v (Value.int IntKind.i64 (↑k_1 : Int)))] ∧
  sm b.length ∧ (1 : Nat) ≤ k_1 ∧ k_1 ≤ (8 : Nat)) ∧ (∃ (b : List Int), ∃ (n : Int), ∃ (k_1 : Nat), [O.d (D.ints IntKind.u8 ([] ++ be (IntKind.u64.wrap c.time) (Int.toNat (8 : Int)) ++ be (IntKind.u64.wrap c.a) (Int.toNat (4 : Int)) ++ be (IntKind.u64.wrap c.b) (Int.toNat (4 : Int)) ++ be (IntKind.u64.wrap c.c) (Int.toNat (4 : Int)) ++ be (IntKind.u64.wrap c.d) (Int.toNat (4 : Int)) ++ be (IntKind.u64.wrap c.e) (Int.toNat (4 : Int)) ++ be (IntKind.u64.wrap c.f) (Int.toNat (4 : Int)))), O.d (D.v (Value.int IntKind.u64 (IntKind.u64.wrap c.g))), O.d (D.v (Value.int IntKind.i64 (4 : Int)))] = [O.d (D.ints IntKind.u8 b), O.d (D.v (Value.int IntKind.u64 n)), O.d (D.v (Value.int IntKind.i64 (↑k_1 : Int)))] ∧
  sm b.length ∧ (1 : Nat) ≤ k_1 ∧ k_1 ≤ (8 : Nat)) ∧ (∃ (b : List Int), ∃ (n : Int), ∃ (k_1 : Nat), [O.d (D.ints IntKind.u8 []), O.d (D.v (Value.int IntKind.u64 k)), O.d (D.v (Value.int IntKind.i64 (8 : Int)))] = [O.d (D.ints IntKind.u8 b), O.d (D.v (Value.int IntKind.u64 n)), O.d (D.v (Value.int IntKind.i64 (↑k_1 : Int)))] ∧
  sm b.length ∧ (1 : Nat) ≤ k_1 ∧ k_1 ≤ (8 : Nat)) ∧ True ∧ (8 : Nat) ≤ (140737488355328 : Nat) ∧ True ∧ (44 : Nat) ≤ (140737488355328 : Nat) ∧ True ∧ (52 : Nat) ≤ (140737488355328 : Nat) ∧
  (∃ (b : List Int), [O.d (D.ints IntKind.u8 ([] ++ ([] ++ be k (Int.toNat (8 : Int))) ++ ([] ++ be (IntKind.u64.wrap c.time) (Int.toNat (8 : Int)) ++ be (IntKind.u64.wrap c.a) (Int.toNat (4 : Int)) ++ be (IntKind.u64.wrap c.b) (Int.toNat (4 : Int)) ++ be (IntKind.u64.wrap c.c) (Int.toNat (4 : Int)) ++ be (IntKind.u64.wrap c.d) (Int.toNat (4 : Int)) ++ be (IntKind.u64.wrap c.e) (Int.toNat (4 : Int)) ++ be (IntKind.u64.wrap c.f) (Int.toNat (4 : Int)) ++ be (IntKind.u64.wrap c.g) (Int.toNat (4 : Int))) ++ ([] ++ be k (Int.toNat (8 : Int)))))] = [O.d (D.ints IntKind.u8 b)] ∧
  sm b.length ∧ okB b) ∧ (∃ (b : List Int), ∃ (n : Int), ∃ (k_1 : Nat), [O.d (D.ints IntKind.u8 ([] ++ be (IntKind.u64.wrap c.time) (Int.toNat (8 : Int)) ++ be (IntKind.u64.wrap c.a) (Int.toNat (4 : Int)) ++ be (IntKind.u64.wrap c.b) (Int.toNat (4 : Int)) ++ be (IntKind.u64.wrap c.c) (Int.toNat (4 : Int)) ++ be (IntKind.u64.wrap c.d) (Int.toNat (4 : Int)) ++ be (IntKind.u64.wrap c.e) (Int.toNat (4 : Int)) ++ be (IntKind.u64.wrap c.f) (Int.toNat (4 : Int)) ++ be (IntKind.u64.wrap c.g) (Int.toNat (4 : Int)))), O.d (D.v (Value.int IntKind.u64 (IntKind.u64.wrap (sumF ([] ++ ([] ++ be k (Int.toNat (8 : Int))) ++ ([] ++ be (IntKind.u64.wrap c.time) (Int.toNat (8 : Int)) ++ be (IntKind.u64.wrap c.a) (Int.toNat (4 : Int)) ++ be (IntKind.u64.wrap c.b) (Int.toNat (4 : Int)) ++ be (IntKind.u64.wrap c.c) (Int.toNat (4 : Int)) ++ be (IntKind.u64.wrap c.d) (Int.toNat (4 : Int)) ++ be (IntKind.u64.wrap c.e) (Int.toNat (4 : Int)) ++ be (IntKind.u64.wrap c.f) (Int.toNat (4 : Int)) ++ be (IntKind.u64.wrap c.g) (Int.toNat (4 : Int))) ++ ([] ++ be k (Int.toNat (8 : Int)))))))), O.d (D.v (Value.int IntKind.i64 (4 : Int)))] = [O.d (D.ints IntKind.u8 b), O.d (D.v (Value.int IntKind.u64 n)), O.d (D.v (Value.int IntKind.i64 (↑k_1 : Int)))] ∧
  sm b.length ∧ (1 : Nat) ≤ k_1 ∧ k_1 ≤ (8 : Nat)) ∧ [] ++ be (IntKind.u64.wrap c.time) (Int.toNat (8 : Int)) ++ be (IntKind.u64.wrap c.a) (Int.toNat (4 : Int)) ++ be (IntKind.u64.wrap c.b) (Int.toNat (4 : Int)) ++ be (IntKind.u64.wrap c.c) (Int.toNat (4 : Int)) ++ be (IntKind.u64.wrap c.d) (Int.toNat (4 : Int)) ++ be (IntKind.u64.wrap c.e) (Int.toNat (4 : Int)) ++ be (IntKind.u64.wrap c.f) (Int.toNat (4 : Int)) ++ be (IntKind.u64.wrap c.g) (Int.toNat (4 : Int)) ++ be (IntKind.u64.wrap (sumF ([] ++ ([] ++ be k (Int.toNat (8 : Int))) ++ ([] ++ be (IntKind.u64.wrap c.time) (Int.toNat (8 : Int)) ++ be (IntKind.u64.wrap c.a) (Int.toNat (4 : Int)) ++ be (IntKind.u64.wrap c.b) (Int.toNat (4 : Int)) ++ be (IntKind.u64.wrap c.c) (Int.toNat (4 : Int)) ++ be (IntKind.u64.wrap c.d) (Int.toNat (4 : Int)) ++ be (IntKind.u64.wrap c.e) (Int.toNat (4 : Int)) ++ be (IntKind.u64.wrap c.f) (Int.toNat (4 : Int)) ++ be (IntKind.u64.wrap c.g) (Int.toNat (4 : Int))) ++ ([] ++ be k (Int.toNat (8 : Int)))))) (Int.toNat (4 : Int)) = (sealF k (CruR.mk c.time c.a c.b c.c c.d c.e c.f c.g)).fst ∧
  (0 : Int) = (sealF k (CruR.mk c.time c.a c.b c.c c.d c.e c.f c.g)).snd ∧ (!false && true && true) = true) := by
  simp only [↓sw_iff, ↓Bool.and_eq_true, ↓decide_eq_true_eq, ↓decide_eq_false_iff_not, ↓Bool.not_eq_true', ↓Bool.not_eq_false', true_and, and_true, implies_true, List.nil_append, be_w8, be_w4, toNat8, toNat4, cru_eta]
  intro k c ok
  refine ⟨fun h => ?_, fun h => ?_⟩
  · have hs : ¬ soundF c = true := by
      simp only [soundF, Bool.and_eq_true, decide_eq_true_eq, Bool.not_eq_true', decide_eq_false_iff_not]
      simp only [Bool.or_eq_true, decide_eq_true_eq] at h
      omega
    unfold sealF
    rw [if_neg hs]
    exact ⟨rfl, rfl⟩
  · have hs : soundF c = true := by
      simp only [soundF, Bool.and_eq_true, decide_eq_true_eq, Bool.not_eq_true', decide_eq_false_iff_not]
      simp only [Bool.or_eq_false_iff, decide_eq_false_iff_not] at h
      omega
    have e : sealF k c = (sealB k c, 0) := by unfold sealF; rw [if_pos hs]
    rw [e]
    repeat' apply And.intro
    all_goals first
      | omega
      | rfl
      | exact ⟨_, _, 8, rfl, by simp [sm], by omega, by omega⟩
      | exact ⟨_, _, 4, rfl, by simp [sm, be_len], by omega, by omega⟩
      | exact ⟨_, rfl, by simp [sm, be_len], key_okB (cruB_okB c) k⟩
set_option maxRecDepth 100000 in
theorem ok40 : FnIs Try.prog 40 sealC := by
  refine fnIs (C := (ctrs k7)) (by kernel_rfl) k7_ok Try.func40 (code := code40) (by kernel_rfl) (by kernel_rfl) ?_
  rintro a ⟨k, c, rfl, ok⟩
  exact ⟨anns [], kcast (vc40 k c ok) (by kernel_rfl)⟩

noncomputable def code41 : Code := match Try.f41.body with | some c => c | none => .skip
set_option maxHeartbeats 4000000 in
theorem vc41 : ∀ (k : Int) (b : List Int), b.length ≤ (1048576 : Nat) → okB b → True ∧ sw (decide ((↑b.length : Int) < (40 : Int))) ((0 : Int) = (openF k b).fst.time ∧
  (0 : Int) = (openF k b).fst.a ∧ (0 : Int) = (openF k b).fst.b ∧ (0 : Int) = (openF k b).fst.c ∧ (0 : Int) = (openF k b).fst.d ∧ (0 : Int) = (openF k b).fst.e ∧
  (0 : Int) = (openF k b).fst.f ∧ (0 : Int) = (openF k b).fst.g ∧ (3 : Int) = (openF k b).snd ∧ (true && true) = true) (True ∧ sw (decide ((40 : Int) < (↑b.length : Int))) ((0 : Int) = (openF k b).fst.time ∧
  (0 : Int) = (openF k b).fst.a ∧ (0 : Int) = (openF k b).fst.b ∧ (0 : Int) = (openF k b).fst.c ∧ (0 : Int) = (openF k b).fst.d ∧ (0 : Int) = (openF k b).fst.e ∧
  (0 : Int) = (openF k b).fst.f ∧ (0 : Int) = (openF k b).fst.g ∧ (2 : Int) = (openF k b).snd ∧ (true && true) = true) ((∃ (b_1 : List Int), ∃ (i : Int), ∃ (k_1 : Nat), [O.d (D.ints IntKind.u8 b), O.d (D.v (Value.int IntKind.i64 (36 : Int))), O.d (D.v (Value.int IntKind.i64 (4 : Int)))] = [O.d (D.ints IntKind.u8 b_1), O.d (D.v (Value.int IntKind.i64 i)), O.d (D.v (Value.int IntKind.i64 (↑k_1 : Int)))] ∧
  sm b_1.length ∧ okB b_1 ∧ okI i ∧ (1 : Nat) ≤ k_1 ∧ k_1 ≤ (8 : Nat)) ∧ ((0 : Int) ≤ (36 : Int) ∧ (36 : Int) ≤ (↑b.length : Int)) ∧ (∃ (k_1 : Int), ∃ (b_1 : List Int), [O.d (D.v (Value.int IntKind.u64 k)), O.d (D.ints IntKind.u8 (List.take (Int.toNat (36 : Int)) b))] = [O.d (D.v (Value.int IntKind.u64 k_1)), O.d (D.ints IntKind.u8 b_1)] ∧
  b_1.length ≤ (1048576 : Nat) ∧ okB b_1) ∧ True ∧ sw (!decide (valF (partF b (36 : Int) (↑(Int.toNat (4 : Int)) : Int)).fst = keyF k (List.take (Int.toNat (36 : Int)) b))) ((0 : Int) = (openF k b).fst.time ∧
  (0 : Int) = (openF k b).fst.a ∧ (0 : Int) = (openF k b).fst.b ∧ (0 : Int) = (openF k b).fst.c ∧ (0 : Int) = (openF k b).fst.d ∧ (0 : Int) = (openF k b).fst.e ∧
  (0 : Int) = (openF k b).fst.f ∧ (0 : Int) = (openF k b).fst.g ∧ (5 : Int) = (openF k b).snd ∧ (true && true) = true) ((∃ (b_1 : List Int), ∃ (i : Int), ∃ (k_1 : Nat), [O.d (D.ints IntKind.u8 b), O.d (D.v (Value.int IntKind.i64 (0 : Int))), O.d (D.v (Value.int IntKind.i64 (8 : Int)))] = [O.d (D.ints IntKind.u8 b_1), O.d (D.v (Value.int IntKind.i64 i)), O.d (D.v (Value.int IntKind.i64 (↑k_1 : Int)))] ∧
  sm b_1.length ∧ okB b_1 ∧ okI i ∧ (1 : Nat) ≤ k_1 ∧ k_1 ≤ (8 : Nat)) ∧ (True ∧ ((0 : Int) ≤ (0 : Int) ∧ (0 : Int) < (↑(7 : Nat) : Int)) ∧ True ∧ True ∧
  (∃ (b_1 : List Int), ∃ (i : Int), ∃ (k_1 : Nat), [O.d (D.ints IntKind.u8 b), O.d (D.v (Value.int IntKind.i64 (IntKind.i64.wrap ((8 : Int) + IntKind.i64.wrap ((4 : Int) * (0 : Int)))))), O.d (D.v (Value.int IntKind.i64 (4 : Int)))] = [O.d (D.ints IntKind.u8 b_1), O.d (D.v (Value.int IntKind.i64 i)), O.d (D.v (Value.int IntKind.i64 (↑k_1 : Int)))] ∧
  sm b_1.length ∧ okB b_1 ∧ okI i ∧ (1 : Nat) ≤ k_1 ∧ k_1 ≤ (8 : Nat)) ∧ True ∧ True ∧ ((0 : Int) ≤ IntKind.i64.wrap ((0 : Int) + (1 : Int)) ∧ IntKind.i64.wrap ((0 : Int) + (1 : Int)) < (↑(7 : Nat) : Int)) ∧
  True ∧ True ∧ (∃ (b_1 : List Int), ∃ (i : Int), ∃ (k_1 : Nat), [O.d (D.ints IntKind.u8 b), O.d (D.v (Value.int IntKind.i64 (IntKind.i64.wrap ((8 : Int) + IntKind.i64.wrap ((4 : Int) * IntKind.i64.wrap ((0 : Int) + (1 : Int))))))), O.d (D.v (Value.int IntKind.i64 (4 : Int)))] = [O.d (D.ints IntKind.u8 b_1), O.d (D.v (Value.int IntKind.i64 i)), O.d (D.v (Value.int IntKind.i64 (↑k_1 : Int)))] ∧
  sm b_1.length ∧ okB b_1 ∧ okI i ∧ (1 : Nat) ≤ k_1 ∧ k_1 ≤ (8 : Nat)) ∧ True ∧ True ∧ ((0 : Int) ≤ IntKind.i64.wrap (IntKind.i64.wrap ((0 : Int) + (1 : Int)) + (1 : Int)) ∧
  IntKind.i64.wrap (IntKind.i64.wrap ((0 : Int) + (1 : Int)) + (1 : Int)) < (↑(7 : Nat) : Int)) ∧ True ∧ True ∧ (∃ (b_1 : List Int), ∃ (i : Int), ∃ (k_1 : Nat), [O.d (D.ints IntKind.u8 b), O.d (D.v (Value.int IntKind.i64 (IntKind.i64.wrap ((8 : Int) + IntKind.i64.wrap ((4 : Int) * IntKind.i64.wrap (IntKind.i64.wrap ((0 : Int) + (1 : Int)) + (1 : Int))))))), O.d (D.v (Value.int IntKind.i64 (4 : Int)))] = [O.d (D.ints IntKind.u8 b_1), O.d (D.v (Value.int IntKind.i64 i)), O.d (D.v (Value.int IntKind.i64 (↑k_1 : Int)))] ∧
  sm b_1.length ∧ okB b_1 ∧ okI i ∧ (1 : Nat) ≤ k_1 ∧ k_1 ≤ (8 : Nat)) ∧ True ∧ True ∧ ((0 : Int) ≤ IntKind.i64.wrap (IntKind.i64.wrap (IntKind.i64.wrap ((0 : Int) + (1 : Int)) + (1 : Int)) + (1 : Int)) ∧
  IntKind.i64.wrap (IntKind.i64.wrap (IntKind.i64.wrap ((0 : Int) + (1 : Int)) + (1 : Int)) + (1 : Int)) < (↑(7 : Nat) : Int)) ∧ True ∧ True ∧ (∃ (b_1 : List Int), ∃ (i : Int), ∃ (k_1 : Nat), [O.d (D.ints IntKind.u8 b), O.d (D.v (Value.int IntKind.i64 (IntKind.i64.wrap ((8 : Int) + IntKind.i64.wrap ((4 : Int) * IntKind.i64.wrap (IntKind.i64.wrap (IntKind.i64.wrap ((0 : Int) + (1 : Int)) + (1 : Int)) + (1 : Int))))))), O.d (D.v (Value.int IntKind.i64 (4 : Int)))] = [O.d (D.ints IntKind.u8 b_1), O.d (D.v (Value.int IntKind.i64 i)), O.d (D.v (Value.int IntKind.i64 (↑k_1 : Int)))] ∧
  sm b_1.length ∧ okB b_1 ∧ okI i ∧ (1 : Nat) ≤ k_1 ∧ k_1 ≤ (8 : Nat)) ∧ True ∧ True ∧ ((0 : Int) ≤ IntKind.i64.wrap (IntKind.i64.wrap (IntKind.i64.wrap (IntKind.i64.wrap ((0 : Int) + (1 : Int)) + (1 : Int)) + (1 : Int)) + (1 : Int)) ∧
  IntKind.i64.wrap (IntKind.i64.wrap (IntKind.i64.wrap (IntKind.i64.wrap ((0 : Int) + (1 : Int)) + (1 : Int)) + (1 : Int)) + (1 : Int)) < (↑(7 : Nat) : Int)) ∧
  True ∧ True ∧ (∃ (b_1 : List Int), ∃ (i : Int), ∃ (k_1 : Nat), [O.d (D.ints IntKind.u8 b), O.d (D.v (Value.int IntKind.i64 (IntKind.i64.wrap ((8 : Int) + IntKind.i64.wrap ((4 : Int) * IntKind.i64.wrap (IntKind.i64.wrap (IntKind.i64.wrap (IntKind.i64.wrap ((0 : Int) + (1 : Int)) + (1 : Int)) + (1 : Int)) + (1 : Int))))))), O.d (D.v (Value.int IntKind.i64 (4 : Int)))] = [O.d (D.ints IntKind.u8 b_1), O.d (D.v (Value.int IntKind.i64 i)), O.d (D.v (Value.int IntKind.i64 (↑k_1 : Int)))] ∧
  sm b_1.length ∧ okB b_1 ∧ okI i ∧ (1 : Nat) ≤ k_1 ∧ k_1 ≤ (8 : Nat)) ∧ True ∧ True ∧ ((0 : Int) ≤ IntKind.i64.wrap (IntKind.i64.wrap (IntKind.i64.wrap (IntKind.i64.wrap (IntKind.i64.wrap ((0 : Int) + (1 : Int)) + (1 : Int)) + (1 : Int)) + (1 : Int)) + (1 : Int)) ∧
  IntKind.i64.wrap (IntKind.i64.wrap (IntKind.i64.wrap (IntKind.i64.wrap (IntKind.i64.wrap ((0 : Int) + (1 : Int)) + (1 : Int)) + (1 : Int)) + (1 : Int)) + (1 : Int)) < (↑(7 : Nat) : Int)) ∧
  True ∧ True ∧ (∃ (b_1 : List Int), ∃ (i : Int), ∃ (k_1 : Nat), [O.d (D.ints IntKind.u8 b), O.d (D.v (Value.int IntKind.i64 (IntKind.i64.wrap ((8 : Int) + IntKind.i64.wrap ((4 : Int) * IntKind.i64.wrap (IntKind.i64.wrap (IntKind.i64.wrap (IntKind.i64.wrap (IntKind.i64.wrap ((0 : Int) + (1 : Int)) + (1 : Int)) + (1 : Int)) + (1 : Int)) + (1 : Int))))))), O.d (D.v (Value.int IntKind.i64 (4 : Int)))] = [O.d (D.ints IntKind.u8 b_1), O.d (D.v (Value.int IntKind.i64 i)), O.d (D.v (Value.int IntKind.i64 (↑k_1 : Int)))] ∧
  sm b_1.length ∧ okB b_1 ∧ okI i ∧ (1 : Nat) ≤ k_1 ∧ k_1 ≤ (8 : Nat)) ∧ True ∧ True ∧ ((0 : Int) ≤ IntKind.i64.wrap (IntKind.i64.wrap (IntKind.i64.wrap (IntKind.i64.wrap (IntKind.i64.wrap (IntKind.i64.wrap ((0 : Int) + (1 : Int)) + (1 : Int)) + (1 : Int)) + (1 : Int)) + (1 : Int)) + (1 : Int)) ∧
  IntKind.i64.wrap (IntKind.i64.wrap (IntKind.i64.wrap (IntKind.i64.wrap (IntKind.i64.wrap (IntKind.i64.wrap ((0 : Int) + (1 : Int)) + (1 : Int)) + (1 : Int)) + (1 : Int)) + (1 : Int)) + (1 : Int)) < (↑(7 : Nat) : Int)) ∧
  True ∧ True ∧ (∃ (b_1 : List Int), ∃ (i : Int), ∃ (k_1 : Nat), [O.d (D.ints IntKind.u8 b), O.d (D.v (Value.int IntKind.i64 (IntKind.i64.wrap ((8 : Int) + IntKind.i64.wrap ((4 : Int) * IntKind.i64.wrap (IntKind.i64.wrap (IntKind.i64.wrap (IntKind.i64.wrap (IntKind.i64.wrap (IntKind.i64.wrap ((0 : Int) + (1 : Int)) + (1 : Int)) + (1 : Int)) + (1 : Int)) + (1 : Int)) + (1 : Int))))))), O.d (D.v (Value.int IntKind.i64 (4 : Int)))] = [O.d (D.ints IntKind.u8 b_1), O.d (D.v (Value.int IntKind.i64 i)), O.d (D.v (Value.int IntKind.i64 (↑k_1 : Int)))] ∧
  sm b_1.length ∧ okB b_1 ∧ okI i ∧ (1 : Nat) ≤ k_1 ∧ k_1 ≤ (8 : Nat)) ∧ True ∧ True ∧ (∃ (c : CruR), [O.agg [O.d (D.v (Value.int IntKind.i64 (IntKind.i64.wrap (valF (partF b (0 : Int) (↑(Int.toNat (8 : Int)) : Int)).fst)))), O.d (D.v (Value.int IntKind.u32 (IntKind.u32.wrap (valF (partF b (IntKind.i64.wrap ((8 : Int) + IntKind.i64.wrap ((4 : Int) * (0 : Int)))) (↑(Int.toNat (4 : Int)) : Int)).fst)))), O.d (D.v (Value.int IntKind.u32 (IntKind.u32.wrap (valF (partF b (IntKind.i64.wrap ((8 : Int) + IntKind.i64.wrap ((4 : Int) * IntKind.i64.wrap ((0 : Int) + (1 : Int))))) (↑(Int.toNat (4 : Int)) : Int)).fst)))), O.d (D.v (Value.int IntKind.u32 (IntKind.u32.wrap (valF (partF b (IntKind.i64.wrap ((8 : Int) + IntKind.i64.wrap ((4 : Int) * IntKind.i64.wrap (IntKind.i64.wrap ((0 : Int) + (1 : Int)) + (1 : Int))))) (↑(Int.toNat (4 : Int)) : Int)).fst)))), O.d (D.v (Value.int IntKind.u32 (IntKind.u32.wrap (valF (partF b (IntKind.i64.wrap ((8 : Int) + IntKind.i64.wrap ((4 : Int) * IntKind.i64.wrap (IntKind.i64.wrap (IntKind.i64.wrap ((0 : Int) + (1 : Int)) + (1 : Int)) + (1 : Int))))) (↑(Int.toNat (4 : Int)) : Int)).fst)))), O.d (D.v (Value.int IntKind.u32 (IntKind.u32.wrap (valF (partF b (IntKind.i64.wrap ((8 : Int) + IntKind.i64.wrap ((4 : Int) * IntKind.i64.wrap (IntKind.i64.wrap (IntKind.i64.wrap (IntKind.i64.wrap ((0 : Int) + (1 : Int)) + (1 : Int)) + (1 : Int)) + (1 : Int))))) (↑(Int.toNat (4 : Int)) : Int)).fst)))), O.d (D.v (Value.int IntKind.u32 (IntKind.u32.wrap (valF (partF b (IntKind.i64.wrap ((8 : Int) + IntKind.i64.wrap ((4 : Int) * IntKind.i64.wrap (IntKind.i64.wrap (IntKind.i64.wrap (IntKind.i64.wrap (IntKind.i64.wrap ((0 : Int) + (1 : Int)) + (1 : Int)) + (1 : Int)) + (1 : Int)) + (1 : Int))))) (↑(Int.toNat (4 : Int)) : Int)).fst)))), O.d (D.v (Value.int IntKind.u32 (IntKind.u32.wrap (valF (partF b (IntKind.i64.wrap ((8 : Int) + IntKind.i64.wrap ((4 : Int) * IntKind.i64.wrap (IntKind.i64.wrap (IntKind.i64.wrap (IntKind.i64.wrap (IntKind.i64.wrap (IntKind.i64.wrap ((0 : Int) + (1 : Int)) + (1 : Int)) + (1 : Int)) + (1 : Int)) + (1 : Int)) + (1 : Int))))) (↑(Int.toNat (4 : Int)) : Int)).fst))))]] = [O.agg [O.d (D.v (Value.int IntKind.i64 c.time)), O.d (D.v (Value.int IntKind.u32 c.a)), O.d (D.v (Value.int IntKind.u32 c.b)), O.d (D.v (Value.int IntKind.u32 c.c)), O.d (D.v (Value.int IntKind.u32 c.d)), O.d (D.v (Value.int IntKind.u32 c.e)), O.d (D.v (Value.int IntKind.u32 c.f)), O.d (D.v (Value.int IntKind.u32 c.g))]]) ∧
  sw (!soundF (CruR.mk (IntKind.i64.wrap (valF (partF b (0 : Int) (↑(Int.toNat (8 : Int)) : Int)).fst)) (IntKind.u32.wrap (valF (partF b (IntKind.i64.wrap ((8 : Int) + IntKind.i64.wrap ((4 : Int) * (0 : Int)))) (↑(Int.toNat (4 : Int)) : Int)).fst)) (IntKind.u32.wrap (valF (partF b (IntKind.i64.wrap ((8 : Int) + IntKind.i64.wrap ((4 : Int) * IntKind.i64.wrap ((0 : Int) + (1 : Int))))) (↑(Int.toNat (4 : Int)) : Int)).fst)) (IntKind.u32.wrap (valF (partF b (IntKind.i64.wrap ((8 : Int) + IntKind.i64.wrap ((4 : Int) * IntKind.i64.wrap (IntKind.i64.wrap ((0 : Int) + (1 : Int)) + (1 : Int))))) (↑(Int.toNat (4 : Int)) : Int)).fst)) (IntKind.u32.wrap (valF (partF b (IntKind.i64.wrap ((8 : Int) + IntKind.i64.wrap ((4 : Int) * IntKind.i64.wrap (IntKind.i64.wrap (IntKind.i64.wrap ((0 : Int) + (1 : Int)) + (1 : Int)) + (1 : Int))))) (↑(Int.toNat (4 : Int)) : Int)).fst)) (IntKind.u32.wrap (valF (partF b (IntKind.i64.wrap ((8 : Int) + IntKind.i64.wrap ((4 : Int) * IntKind.i64.wrap (IntKind.i64.wrap (IntKind.i64.wrap (IntKind.i64.wrap ((0 : Int) + (1 : Int)) + (1 : Int)) + (1 : Int)) + (1 : Int))))) (↑(Int.toNat (4 : Int)) : Int)).fst)) (IntKind.u32.wrap (valF (partF b (IntKind.i64.wrap ((8 : Int) + IntKind.i64.wrap ((4 : Int) * IntKind.i64.wrap (IntKind.i64.wrap (IntKind.i64.wrap (IntKind.i64.wrap (IntKind.i64.wrap ((0 : Int) + (1 : Int)) + (1 : Int)) + (1 : Int)) + (1 : Int)) + (1 : Int))))) (↑(Int.toNat (4 : Int)) : Int)).fst)) (IntKind.u32.wrap (valF (partF b (IntKind.i64.wrap ((8 : Int) + IntKind.i64.wrap ((4 : Int) * IntKind.i64.wrap (IntKind.i64.wrap (IntKind.i64.wrap (IntKind.i64.wrap (IntKind.i64.wrap (IntKind.i64.wrap ((0 : Int) + (1 : Int)) + (1 : Int)) + (1 : Int)) + (1 : Int)) + (1 : Int)) + (1 : Int))))) (↑(Int.toNat (4 : Int)) : Int)).fst)))) ((0 : Int) = (openF k b).fst.time ∧
  (0 : Int) = (openF k b).fst.a ∧ (0 : Int) = (openF k b).fst.b ∧ (0 : Int) = (openF k b).fst.c ∧ (0 : Int) = (openF k b).fst.d ∧ (0 : Int) = (openF k b).fst.e ∧
  (0 : Int) = (openF k b).fst.f ∧ (0 : Int) = (openF k b).fst.g ∧ (2 : Int) = (openF k b).snd ∧ (true && true) = true) (IntKind.i64.wrap (valF (partF b (0 : Int) (↑(Int.toNat (8 : Int)) : Int)).fst) = (openF k b).fst.time ∧
  IntKind.u32.wrap (valF (partF b (IntKind.i64.wrap ((8 : Int) + IntKind.i64.wrap ((4 : Int) * (0 : Int)))) (↑(Int.toNat (4 : Int)) : Int)).fst) = (openF k b).fst.a ∧
  IntKind.u32.wrap (valF (partF b (IntKind.i64.wrap ((8 : Int) + IntKind.i64.wrap ((4 : Int) * IntKind.i64.wrap ((0 : Int) + (1 : Int))))) (↑(Int.toNat (4 : Int)) : Int)).fst) = (openF k b).fst.b ∧
  IntKind.u32.wrap (valF (partF b (IntKind.i64.wrap ((8 : Int) + IntKind.i64.wrap ((4 : Int) * IntKind.i64.wrap (IntKind.i64.wrap ((0 : Int) + (1 : Int)) + (1 : Int))))) (↑(Int.toNat (4 : Int)) : Int)).fst) = (openF k b).fst.c ∧
  IntKind.u32.wrap (valF (partF b (IntKind.i64.wrap ((8 : Int) + IntKind.i64.wrap ((4 : Int) * IntKind.i64.wrap (IntKind.i64.wrap (IntKind.i64.wrap ((0 : Int) + (1 : Int)) + (1 : Int)) + (1 : Int))))) (↑(Int.toNat (4 : Int)) : Int)).fst) = (openF k b).fst.d ∧
  IntKind.u32.wrap (valF (partF b (IntKind.i64.wrap ((8 : Int) + IntKind.i64.wrap ((4 : Int) * IntKind.i64.wrap (IntKind.i64.wrap (IntKind.i64.wrap (IntKind.i64.wrap ((0 : Int) + (1 : Int)) + (1 : Int)) + (1 : Int)) + (1 : Int))))) (↑(Int.toNat (4 : Int)) : Int)).fst) = (openF k b).fst.e ∧
  IntKind.u32.wrap (valF (partF b (IntKind.i64.wrap ((8 : Int) + IntKind.i64.wrap ((4 : Int) * IntKind.i64.wrap (IntKind.i64.wrap (IntKind.i64.wrap (IntKind.i64.wrap (IntKind.i64.wrap ((0 : Int) + (1 : Int)) + (1 : Int)) + (1 : Int)) + (1 : Int)) + (1 : Int))))) (↑(Int.toNat (4 : Int)) : Int)).fst) = (openF k b).fst.f ∧
  IntKind.u32.wrap (valF (partF b (IntKind.i64.wrap ((8 : Int) + IntKind.i64.wrap ((4 : Int) * IntKind.i64.wrap (IntKind.i64.wrap (IntKind.i64.wrap (IntKind.i64.wrap (IntKind.i64.wrap (IntKind.i64.wrap ((0 : Int) + (1 : Int)) + (1 : Int)) + (1 : Int)) + (1 : Int)) + (1 : Int)) + (1 : Int))))) (↑(Int.toNat (4 : Int)) : Int)).fst) = (openF k b).fst.g ∧
  (0 : Int) = (openF k b).snd ∧ (true && true) = true)) ∧ True))) := by
  simp only [↓sw_iff, ↓Bool.and_eq_true, ↓decide_eq_true_eq, ↓decide_eq_false_iff_not, ↓Bool.not_eq_true', ↓Bool.not_eq_false', true_and, and_true, wr1, wr2, wr3, wr4, wr5, wr6, fa0, fa1, fa2, fa3, fa4, fa5, fa6, toNat4, toNat8, nAt_eq]
  intro k b h hb
  simp only [nAt4 hb]
  refine ⟨fun l1 => ?_, fun l1 => ⟨fun l2 => ?_, fun l2 => ?_⟩⟩
  · rw [open_lt l1]; exact ⟨rfl, rfl, rfl, rfl, rfl, rfl, rfl, rfl, rfl⟩
  · rw [open_gt l2]; exact ⟨rfl, rfl, rfl, rfl, rfl, rfl, rfl, rfl, rfl⟩
  have hl : b.length = 40 := by omega
  have ht : (List.take (Int.toNat 36) b).length ≤ 1048576 := by rw [List.length_take]; omega
  refine ⟨⟨b, 36, 4, rfl, by unfold sm; omega, hb, by unfold okI; omega, by omega, by omega⟩, by omega, ⟨k, _, rfl, ht, okB_take hb _⟩, fun e => ?_, fun e => ?_⟩
  · rw [open_sum hl e]; exact ⟨rfl, rfl, rfl, rfl, rfl, rfl, rfl, rfl, rfl⟩
  · repeat' apply And.intro
    all_goals first
      | omega
      | exact ⟨b, _, 8, rfl, by unfold sm; omega, hb, by unfold okI; omega, by omega, by omega⟩
      | exact ⟨b, _, 4, rfl, by unfold sm; omega, hb, by unfold okI; omega, by omega, by omega⟩
      | exact ⟨cruOf b, rfl⟩
      | (intro hs; rw [open_bad hl e (by rw [Bool.not_eq_true]; exact hs)]; exact ⟨rfl, rfl, rfl, rfl, rfl, rfl, rfl, rfl, rfl⟩)
      | (intro hs; rw [open_ok hl e hs]; exact ⟨rfl, rfl, rfl, rfl, rfl, rfl, rfl, rfl, rfl⟩)
set_option maxRecDepth 100000 in
theorem ok41 : FnIs Try.prog 41 openC := by
  refine fnIs (C := (ctrsJ Try.prog k6 i39 1)) (by kernel_rfl) (cokJ (by kernel_rfl) k6_ok i39_ok) Try.func41 (code := code41) (by kernel_rfl) (by kernel_rfl) ?_
  rintro a ⟨k, b, rfl, h, hb⟩
  exact ⟨anns [] [] [(12, 8)], kcast (vc41 k b h hb) (by kernel_rfl)⟩

noncomputable def code42 : Code := match Try.f42.body with | some c => c | none => .skip
set_option maxHeartbeats 4000000 in
theorem vc42 : ∀ (k : Int) (b : List Int), b.length ≤ (1048576 : Nat) → okB b → True ∧ sw (decide ((↑b.length : Int) < (40 : Int))) ((0 : Int) = (openF k b).fst.time ∧
  (0 : Int) = (openF k b).fst.a ∧ (0 : Int) = (openF k b).fst.b ∧ (0 : Int) = (openF k b).fst.c ∧ (0 : Int) = (openF k b).fst.d ∧ (0 : Int) = (openF k b).fst.e ∧
  (0 : Int) = (openF k b).fst.f ∧ (0 : Int) = (openF k b).fst.g ∧ (3 : Int) = (openF k b).snd ∧ (true && true) = true) (True ∧ sw (decide ((40 : Int) < (↑b.length : Int))) ((0 : Int) = (openF k b).fst.time ∧
  (0 : Int) = (openF k b).fst.a ∧ (0 : Int) = (openF k b).fst.b ∧ (0 : Int) = (openF k b).fst.c ∧ (0 : Int) = (openF k b).fst.d ∧ (0 : Int) = (openF k b).fst.e ∧
  (0 : Int) = (openF k b).fst.f ∧ (0 : Int) = (openF k b).fst.g ∧ (2 : Int) = (openF k b).snd ∧ (true && true) = true) ((∃ (b_1 : List Int), ∃ (n : Int), ∃ (k_1 : Nat), [O.d (D.ints IntKind.u8 []), O.d (D.v (Value.int IntKind.u64 k)), O.d (D.v (Value.int IntKind.i64 (8 : Int)))] = [O.d (D.ints IntKind.u8 b_1), O.d (D.v (Value.int IntKind.u64 n)), O.d (D.v (Value.int IntKind.i64 (↑k_1 : Int)))] ∧
  sm b_1.length ∧ (1 : Nat) ≤ k_1 ∧ k_1 ≤ (8 : Nat)) ∧ ((0 : Int) ≤ (36 : Int) ∧ (36 : Int) ≤ (↑b.length : Int)) ∧ ((True ∧ (8 : Nat) ≤ (140737488355328 : Nat) ∧
  (True ∧ ((8 : Nat) + (List.take (Int.toNat (36 : Int)) b).length) * Try.prog.types[(5 : Nat)].bytes ≤ (140737488355328 : Nat) ∧ (True ∧ (([] ++ ([] ++ be k (Int.toNat (8 : Int))) ++ List.take (Int.toNat (36 : Int)) b).length + (8 : Nat)) * Try.prog.types[(5 : Nat)].bytes ≤ (140737488355328 : Nat) ∧
  (∃ (b_1 : List Int), ∃ (i : Int), ∃ (k_1 : Nat), [O.d (D.ints IntKind.u8 b), O.d (D.v (Value.int IntKind.i64 (36 : Int))), O.d (D.v (Value.int IntKind.i64 (4 : Int)))] = [O.d (D.ints IntKind.u8 b_1), O.d (D.v (Value.int IntKind.i64 i)), O.d (D.v (Value.int IntKind.i64 (↑k_1 : Int)))] ∧
  sm b_1.length ∧ okB b_1 ∧ okI i ∧ (1 : Nat) ≤ k_1 ∧ k_1 ≤ (7 : Nat)) ∧ (∃ (b_1 : List Int), [O.d (D.ints IntKind.u8 ([] ++ ([] ++ be k (Int.toNat (8 : Int))) ++ List.take (Int.toNat (36 : Int)) b ++ ([] ++ be k (Int.toNat (8 : Int)))))] = [O.d (D.ints IntKind.u8 b_1)] ∧
  sm b_1.length ∧ okB b_1) ∧ True ∧ sw (!decide (valF (partF b (36 : Int) (↑(Int.toNat (4 : Int)) : Int)).fst = IntKind.i64.wrap (sumF ([] ++ ([] ++ be k (Int.toNat (8 : Int))) ++ List.take (Int.toNat (36 : Int)) b ++ ([] ++ be k (Int.toNat (8 : Int))))))) ((0 : Int) = (openF k b).fst.time ∧
  (0 : Int) = (openF k b).fst.a ∧ (0 : Int) = (openF k b).fst.b ∧ (0 : Int) = (openF k b).fst.c ∧ (0 : Int) = (openF k b).fst.d ∧ (0 : Int) = (openF k b).fst.e ∧
  (0 : Int) = (openF k b).fst.f ∧ (0 : Int) = (openF k b).fst.g ∧ (5 : Int) = (openF k b).snd ∧ (true && true) = true) ((∃ (b_1 : List Int), ∃ (i : Int), ∃ (k_1 : Nat), [O.d (D.ints IntKind.u8 b), O.d (D.v (Value.int IntKind.i64 (0 : Int))), O.d (D.v (Value.int IntKind.i64 (8 : Int)))] = [O.d (D.ints IntKind.u8 b_1), O.d (D.v (Value.int IntKind.i64 i)), O.d (D.v (Value.int IntKind.i64 (↑k_1 : Int)))] ∧
  sm b_1.length ∧ okB b_1 ∧ okI i ∧ (1 : Nat) ≤ k_1 ∧ k_1 ≤ (8 : Nat)) ∧ True ∧ sw (decide ((1099511627776 : Int) < valF (partF b (0 : Int) (↑(Int.toNat (8 : Int)) : Int)).fst)) ((0 : Int) = (openF k b).fst.time ∧
  (0 : Int) = (openF k b).fst.a ∧ (0 : Int) = (openF k b).fst.b ∧ (0 : Int) = (openF k b).fst.c ∧ (0 : Int) = (openF k b).fst.d ∧ (0 : Int) = (openF k b).fst.e ∧
  (0 : Int) = (openF k b).fst.f ∧ (0 : Int) = (openF k b).fst.g ∧ (2 : Int) = (openF k b).snd ∧ (true && true) = true) (∃ (g0 : Nat), g0 ≤ (7 : Nat) ∧ (0 : Int) = (↑g0 : Int) ∧
  List.replicate (7 : Nat) (0 : Int) = fldL b g0 ∧ (!false && true && true) = true ∧ ∀ (g : Nat), g ≤ (7 : Nat) → True ∧ sw (decide ((↑g : Int) < (7 : Int))) (True ∧
  True ∧ (∃ (b_1 : List Int), ∃ (i : Int), ∃ (k_1 : Nat), [O.d (D.ints IntKind.u8 b), O.d (D.v (Value.int IntKind.i64 (IntKind.i64.wrap ((8 : Int) + IntKind.i64.wrap ((4 : Int) * (↑g : Int)))))), O.d (D.v (Value.int IntKind.i64 (4 : Int)))] = [O.d (D.ints IntKind.u8 b_1), O.d (D.v (Value.int IntKind.i64 i)), O.d (D.v (Value.int IntKind.i64 (↑k_1 : Int)))] ∧
  sm b_1.length ∧ okB b_1 ∧ okI i ∧ (1 : Nat) ≤ k_1 ∧ k_1 ≤ (7 : Nat)) ∧ ((0 : Int) ≤ (↑g : Int) ∧ (↑g : Int) < (↑(7 : Nat) : Int) ∧ (7 : Nat) = (7 : Nat)) ∧
  IntKind.u32 = IntKind.u32 ∧ True ∧ ∃ (g' : Nat), g' ≤ (7 : Nat) ∧ (7 : Nat) - g' < (7 : Nat) - g ∧ (IntKind.i64.wrap ((↑g : Int) + (1 : Int)) = (↑g' : Int) ∧
  (fldL b g).set (↑g : Int).toNat (IntKind.u32.wrap (valF (partF b (IntKind.i64.wrap ((8 : Int) + IntKind.i64.wrap ((4 : Int) * (↑g : Int)))) (↑(Int.toNat (4 : Int)) : Int)).fst)) = fldL b g' ∧
  (!false && true && true && ((Nat.ble (9 : Nat) (9 : Nat) || (Nat.beq (8 : Nat) (9 : Nat) || false)) && true)) = true) ∧ (some (SV.c (Value.bool (decide ((1099511627776 : Int) < valF (partF b (0 : Int) (↑(Int.toNat (8 : Int)) : Int)).fst)))) = some (SV.c (Value.bool (decide ((1099511627776 : Int) < valF (partF b (0 : Int) (↑(Int.toNat (8 : Int)) : Int)).fst)))) ∧
  some (SV.c (Value.int IntKind.u64 (valF (partF b (0 : Int) (↑(Int.toNat (8 : Int)) : Int)).fst))) = some (SV.c (Value.int IntKind.u64 (valF (partF b (0 : Int) (↑(Int.toNat (8 : Int)) : Int)).fst))) ∧
  some (SV.c (Value.int IntKind.i64 (partF b (0 : Int) (↑(Int.toNat (8 : Int)) : Int)).snd)) = some (SV.c (Value.int IntKind.i64 (partF b (0 : Int) (↑(Int.toNat (8 : Int)) : Int)).snd)) ∧
  some (SV.c (Value.int IntKind.u64 (valF (partF b (0 : Int) (↑(Int.toNat (8 : Int)) : Int)).fst))) = some (SV.c (Value.int IntKind.u64 (valF (partF b (0 : Int) (↑(Int.toNat (8 : Int)) : Int)).fst))) ∧
  some (SV.c (Value.int IntKind.i64 (partF b (0 : Int) (↑(Int.toNat (8 : Int)) : Int)).snd)) = some (SV.c (Value.int IntKind.i64 (partF b (0 : Int) (↑(Int.toNat (8 : Int)) : Int)).snd)) ∧
  some (SV.c (Value.int IntKind.u64 (valF (partF b (0 : Int) (↑(Int.toNat (8 : Int)) : Int)).fst))) = some (SV.c (Value.int IntKind.u64 (valF (partF b (0 : Int) (↑(Int.toNat (8 : Int)) : Int)).fst))) ∧
  some (SV.tup [SV.c (Value.int IntKind.u64 (valF (partF b (0 : Int) (↑(Int.toNat (8 : Int)) : Int)).fst)), SV.c (Value.int IntKind.i64 (partF b (0 : Int) (↑(Int.toNat (8 : Int)) : Int)).snd)]) = some (SV.tup [SV.c (Value.int IntKind.u64 (valF (partF b (0 : Int) (↑(Int.toNat (8 : Int)) : Int)).fst)), SV.c (Value.int IntKind.i64 (partF b (0 : Int) (↑(Int.toNat (8 : Int)) : Int)).snd)]) ∧
  some (SV.tup [SV.c (Value.int IntKind.u64 (valF (partF b (0 : Int) (↑(Int.toNat (8 : Int)) : Int)).fst)), SV.c (Value.int IntKind.i64 (partF b (0 : Int) (↑(Int.toNat (8 : Int)) : Int)).snd)]) = some (SV.tup [SV.c (Value.int IntKind.u64 (valF (partF b (0 : Int) (↑(Int.toNat (8 : Int)) : Int)).fst)), SV.c (Value.int IntKind.i64 (partF b (0 : Int) (↑(Int.toNat (8 : Int)) : Int)).snd)]) ∧
  some (SV.a (0 : Nat)) = some (SV.a (0 : Nat)) ∧ some (SV.c (Value.bool !decide (valF (partF b (36 : Int) (↑(Int.toNat (4 : Int)) : Int)).fst = IntKind.i64.wrap (sumF ([] ++ ([] ++ be k (Int.toNat (8 : Int))) ++ List.take (Int.toNat (36 : Int)) b ++ ([] ++ be k (Int.toNat (8 : Int)))))))) = some (SV.c (Value.bool !decide (valF (partF b (36 : Int) (↑(Int.toNat (4 : Int)) : Int)).fst = IntKind.i64.wrap (sumF ([] ++ ([] ++ be k (Int.toNat (8 : Int))) ++ List.take (Int.toNat (36 : Int)) b ++ ([] ++ be k (Int.toNat (8 : Int)))))))) ∧
  some (SV.c (Value.int IntKind.i64 (IntKind.i64.wrap (sumF ([] ++ ([] ++ be k (Int.toNat (8 : Int))) ++ List.take (Int.toNat (36 : Int)) b ++ ([] ++ be k (Int.toNat (8 : Int)))))))) = some (SV.c (Value.int IntKind.i64 (IntKind.i64.wrap (sumF ([] ++ ([] ++ be k (Int.toNat (8 : Int))) ++ List.take (Int.toNat (36 : Int)) b ++ ([] ++ be k (Int.toNat (8 : Int)))))))) ∧
  some (SV.c (Value.int IntKind.u32 (sumF ([] ++ ([] ++ be k (Int.toNat (8 : Int))) ++ List.take (Int.toNat (36 : Int)) b ++ ([] ++ be k (Int.toNat (8 : Int))))))) = some (SV.c (Value.int IntKind.u32 (sumF ([] ++ ([] ++ be k (Int.toNat (8 : Int))) ++ List.take (Int.toNat (36 : Int)) b ++ ([] ++ be k (Int.toNat (8 : Int))))))) ∧
  some (SV.a (7 : Nat)) = some (SV.a (7 : Nat)) ∧ some (SV.c (Value.int IntKind.i64 (valF (partF b (36 : Int) (↑(Int.toNat (4 : Int)) : Int)).fst))) = some (SV.c (Value.int IntKind.i64 (valF (partF b (36 : Int) (↑(Int.toNat (4 : Int)) : Int)).fst))) ∧
  some (SV.a (0 : Nat)) = some (SV.a (0 : Nat)) ∧ some (SV.a (7 : Nat)) = some (SV.a (7 : Nat)) ∧ some (SV.a (7 : Nat)) = some (SV.a (7 : Nat)) ∧ some (SV.a (6 : Nat)) = some (SV.a (6 : Nat)) ∧
  some (SV.a (5 : Nat)) = some (SV.a (5 : Nat)) ∧ some (SV.a (4 : Nat)) = some (SV.a (4 : Nat)) ∧ some (SV.a (2 : Nat)) = some (SV.a (2 : Nat)) ∧ some (SV.a (3 : Nat)) = some (SV.a (3 : Nat)) ∧
  some (SV.a (0 : Nat)) = some (SV.a (0 : Nat)) ∧ some (SV.a (2 : Nat)) = some (SV.a (2 : Nat)) ∧ some (SV.a (2 : Nat)) = some (SV.a (2 : Nat)) ∧ some (SV.a (2 : Nat)) = some (SV.a (2 : Nat)) ∧
  some (SV.c (Value.int IntKind.u64 k)) = some (SV.c (Value.int IntKind.u64 k)) ∧ some (SV.c (Value.bool (decide ((40 : Int) < (↑b.length : Int))))) = some (SV.c (Value.bool (decide ((40 : Int) < (↑b.length : Int))))) ∧
  some (SV.c (Value.int IntKind.i64 (↑b.length : Int))) = some (SV.c (Value.int IntKind.i64 (↑b.length : Int))) ∧ some (SV.a (0 : Nat)) = some (SV.a (0 : Nat)) ∧
  some (SV.c (Value.bool (decide ((↑b.length : Int) < (40 : Int))))) = some (SV.c (Value.bool (decide ((↑b.length : Int) < (40 : Int))))) ∧ some (SV.c (Value.int IntKind.i64 (↑b.length : Int))) = some (SV.c (Value.int IntKind.i64 (↑b.length : Int))) ∧
  some (SV.a (0 : Nat)) = some (SV.a (0 : Nat)) ∧ some (SV.c (Value.int IntKind.i64 (0 : Int))) = some (SV.c (Value.int IntKind.i64 (0 : Int))) ∧ some (SV.p (1 : Nat) (0 : Nat)) = some (SV.p (1 : Nat) (0 : Nat)) ∧
  some (SV.c (Value.int IntKind.u64 k)) = some (SV.c (Value.int IntKind.u64 k)) ∧ some (SV.a (0 : Nat)) = some (SV.a (0 : Nat)) ∧ True) ∧ some (R.own (5 : Nat) (D.ints IntKind.u8 ([] ++ ([] ++ be k (Int.toNat (8 : Int))) ++ List.take (Int.toNat (36 : Int)) b ++ ([] ++ be k (Int.toNat (8 : Int)))))) = some (R.own (5 : Nat) (D.ints IntKind.u8 ([] ++ ([] ++ be k (Int.toNat (8 : Int))) ++ List.take (Int.toNat (36 : Int)) b ++ ([] ++ be k (Int.toNat (8 : Int)))))) ∧
  some R.dead = some R.dead ∧ some R.dead = some R.dead ∧ some R.dead = some R.dead ∧ some (R.ro (D.ints IntKind.u8 (List.take (Int.toNat (36 : Int)) b))) = some (R.ro (D.ints IntKind.u8 (List.take (Int.toNat (36 : Int)) b))) ∧
  some (R.own (5 : Nat) (D.ints IntKind.u8 ([] ++ be k (Int.toNat (8 : Int))))) = some (R.own (5 : Nat) (D.ints IntKind.u8 ([] ++ be k (Int.toNat (8 : Int))))) ∧
  some (R.blk (33 : Nat) [SV.c (Value.int IntKind.i64 (0 : Int)), SV.c (Value.int IntKind.u32 (0 : Int)), SV.c (Value.int IntKind.u32 (0 : Int)), SV.c (Value.int IntKind.u32 (0 : Int)), SV.c (Value.int IntKind.u32 (0 : Int)), SV.c (Value.int IntKind.u32 (0 : Int)), SV.c (Value.int IntKind.u32 (0 : Int)), SV.c (Value.int IntKind.u32 (0 : Int))]) = some (R.blk (33 : Nat) [SV.c (Value.int IntKind.i64 (0 : Int)), SV.c (Value.int IntKind.u32 (0 : Int)), SV.c (Value.int IntKind.u32 (0 : Int)), SV.c (Value.int IntKind.u32 (0 : Int)), SV.c (Value.int IntKind.u32 (0 : Int)), SV.c (Value.int IntKind.u32 (0 : Int)), SV.c (Value.int IntKind.u32 (0 : Int)), SV.c (Value.int IntKind.u32 (0 : Int))]) ∧
  some (R.ro (D.ints IntKind.u8 b)) = some (R.ro (D.ints IntKind.u8 b)) ∧ True) (((0 : Int) ≤ (0 : Int) ∧ (0 : Int) < (↑(7 : Nat) : Int) ∧ (7 : Nat) = (7 : Nat)) ∧
  True ∧ sw (decide ((fldL b g).getD (Int.toNat (0 : Int)) (0 : Int) = (0 : Int))) ((0 : Int) = (openF k b).fst.time ∧ (0 : Int) = (openF k b).fst.a ∧ (0 : Int) = (openF k b).fst.b ∧
  (0 : Int) = (openF k b).fst.c ∧ (0 : Int) = (openF k b).fst.d ∧ (0 : Int) = (openF k b).fst.e ∧ (0 : Int) = (openF k b).fst.f ∧ (0 : Int) = (openF k b).fst.g ∧
  (2 : Int) = (openF k b).snd ∧ (true && true) = true) (((0 : Int) ≤ (1 : Int) ∧ (1 : Int) < (↑(7 : Nat) : Int) ∧ (7 : Nat) = (7 : Nat)) ∧ True ∧ sw (decide ((fldL b g).getD (Int.toNat (1 : Int)) (0 : Int) = (0 : Int))) ((0 : Int) = (openF k b).fst.time ∧
  (0 : Int) = (openF k b).fst.a ∧ (0 : Int) = (openF k b).fst.b ∧ (0 : Int) = (openF k b).fst.c ∧ (0 : Int) = (openF k b).fst.d ∧ (0 : Int) = (openF k b).fst.e ∧
  (0 : Int) = (openF k b).fst.f ∧ (0 : Int) = (openF k b).fst.g ∧ (2 : Int) = (openF k b).snd ∧ (true && true) = true) (((0 : Int) ≤ (0 : Int) ∧ (0 : Int) < (↑(7 : Nat) : Int) ∧
  (7 : Nat) = (7 : Nat)) ∧ ((0 : Int) ≤ (1 : Int) ∧ (1 : Int) < (↑(7 : Nat) : Int) ∧ (7 : Nat) = (7 : Nat)) ∧ ((0 : Int) ≤ (2 : Int) ∧ (2 : Int) < (↑(7 : Nat) : Int) ∧
  (7 : Nat) = (7 : Nat)) ∧ ((0 : Int) ≤ (3 : Int) ∧ (3 : Int) < (↑(7 : Nat) : Int) ∧ (7 : Nat) = (7 : Nat)) ∧ ((0 : Int) ≤ (4 : Int) ∧ (4 : Int) < (↑(7 : Nat) : Int) ∧
  (7 : Nat) = (7 : Nat)) ∧ ((0 : Int) ≤ (5 : Int) ∧ (5 : Int) < (↑(7 : Nat) : Int) ∧ (7 : Nat) = (7 : Nat)) ∧ ((0 : Int) ≤ (6 : Int) ∧ (6 : Int) < (↑(7 : Nat) : Int) ∧
  (7 : Nat) = (7 : Nat)) ∧ IntKind.i64.wrap (valF (partF b (0 : Int) (↑(Int.toNat (8 : Int)) : Int)).fst) = (openF k b).fst.time ∧ (fldL b g).getD (Int.toNat (0 : Int)) (0 : Int) = (openF k b).fst.a ∧
  (fldL b g).getD (Int.toNat (1 : Int)) (0 : Int) = (openF k b).fst.b ∧ (fldL b g).getD (Int.toNat (2 : Int)) (0 : Int) = (openF k b).fst.c ∧ (fldL b g).getD (Int.toNat (3 : Int)) (0 : Int) = (openF k b).fst.d ∧
  (fldL b g).getD (Int.toNat (4 : Int)) (0 : Int) = (openF k b).fst.e ∧ (fldL b g).getD (Int.toNat (5 : Int)) (0 : Int) = (openF k b).fst.f ∧ (fldL b g).getD (Int.toNat (6 : Int)) (0 : Int) = (openF k b).fst.g ∧
  (0 : Int) = (openF k b).snd ∧ (true && true) = true)))))) ∧ True) ∧ True) ∧ True) ∧ True)) := by
  simp only [↓sw_iff, ↓Bool.and_eq_true, ↓decide_eq_true_eq, ↓decide_eq_false_iff_not, ↓Bool.not_eq_true', ↓Bool.not_eq_false', true_and, and_true, Bool.or_false, Nat.ble, Nat.beq, Int.toNat_natCast, List.nil_append, List.length_append, Nat.mul_one, toNat8, toNat4, nAt_eq, bytes5, wrap_sum_i]
  intro k b h hb
  refine ⟨fun l1 => ?_, fun l1 => ⟨fun l2 => ?_, fun l2 => ?_⟩⟩
  · rw [open_lt l1]; exact ⟨rfl, rfl, rfl, rfl, rfl, rfl, rfl, rfl, rfl⟩
  · rw [open_gt l2]; exact ⟨rfl, rfl, rfl, rfl, rfl, rfl, rfl, rfl, rfl⟩
  have hl : b.length = 40 := by omega
  have ht : (List.take (Int.toNat 36) b).length = 36 := by rw [List.length_take]; omega
  have n0 := nAt_rng hb 0 (k := 8)
  rw [show (256 : Int) ^ 8 = 18446744073709551616 from rfl] at n0
  refine ⟨⟨[], k, 8, rfl, by simp [sm], by omega, by omega⟩, by omega, by omega, by omega, by rw [be_len]; omega, ⟨b, 36, 4, rfl, by unfold sm; omega, hb, by unfold okI; omega, by omega, by omega⟩,
    ⟨_, rfl, by simp only [sm, List.length_append, be_len]; omega, key_okB (okB_take hb _) k⟩, fun e => ?_, fun e => ?_⟩
  · rw [open_sum hl e]; exact ⟨rfl, rfl, rfl, rfl, rfl, rfl, rfl, rfl, rfl⟩
  refine ⟨⟨b, 0, 8, rfl, by unfold sm; omega, hb, by unfold okI; omega, by omega, by omega⟩, fun t => ?_, fun t => ⟨0, by omega, rfl, fldL_zero b, fun g hg => ⟨fun hlt => ?_, fun hlt => ?_⟩⟩⟩
  · rw [open_bad hl e (by rw [sound_iff b hb]; omega)]; exact ⟨rfl, rfl, rfl, rfl, rfl, rfl, rfl, rfl, rfl⟩
  · rw [fld_rng g (by omega), nAt4 hb]
    exact ⟨⟨b, _, 4, rfl, by unfold sm; omega, hb, by unfold okI; omega, by omega, by omega⟩, by omega, g + 1, by omega, by omega, by rw [wrap_i64_id (by omega) (by omega)]; omega, fldL_set b (by omega)⟩
  · have : g = 7 := by omega
    subst this
    have f0 : (fldL b 7).getD (Int.toNat 0) 0 = nAt b 8 4 := rfl
    have f1 : (fldL b 7).getD (Int.toNat 1) 0 = nAt b 12 4 := rfl
    rw [f0, f1]
    refine ⟨by omega, fun z => ?_, fun z => ⟨by omega, fun z' => ?_, fun z' => ?_⟩⟩
    · rw [open_bad hl e (by rw [sound_iff b hb]; omega)]; exact ⟨rfl, rfl, rfl, rfl, rfl, rfl, rfl, rfl, rfl⟩
    · rw [open_bad hl e (by rw [sound_iff b hb]; omega)]; exact ⟨rfl, rfl, rfl, rfl, rfl, rfl, rfl, rfl, rfl⟩
    · rw [open_ok hl e (by rw [sound_iff b hb]; omega)]
      exact ⟨by omega, by omega, by omega, by omega, by omega, by omega, by omega, rfl, rfl, rfl, rfl, rfl, rfl, rfl, rfl, rfl⟩
set_option maxRecDepth 100000 in
theorem ok42 : FnIs Try.prog 42 openC := by
  refine fnIs (C := (ctrs k8)) (by kernel_rfl) k8_ok Try.func42 (code := code42) (by kernel_rfl) (by kernel_rfl) ?_
  rintro a ⟨k, b, rfl, h, hb⟩
  exact ⟨anns [(14, fldAnn 11 10 b)], kcast (vc42 k b h hb) (by kernel_rfl)⟩

noncomputable def code19 : Code := match Try.f19.body with | some c => c | none => .skip
set_option maxHeartbeats 4000000 in
theorem vc19 : ∀ (c : CruR) (n l : Int), (-1099511627776 : Int) ≤ c.time ∧ c.time ≤ (1099511627776 : Int) → (-1099511627776 : Int) ≤ n ∧ n ≤ (1099511627776 : Int) → (-1099511627776 : Int) ≤ l ∧
  l ≤ (1099511627776 : Int) → True ∧ sw (decide (c.time ≤ n)) (SV.c (Value.int IntKind.i64 l) = SV.c (Value.int IntKind.i64 l)) True ∧ sw (decide (c.time ≤ n)) ([decide (c.time ≤ n)] = [decide (c.time ≤ n)] ∧
  True ∧ SV.c (Value.bool (decide ((0 : Int) ≤ l))) = SV.c (Value.bool (decide ((0 : Int) ≤ l)))) True ∧ [decide (c.time ≤ n)] = [decide (c.time ≤ n)] ∧ sw (decide (c.time ≤ n) && decide ((0 : Int) ≤ l)) (SV.c (Value.int IntKind.i64 n) = SV.c (Value.int IntKind.i64 n)) True ∧
  sw (decide (c.time ≤ n) && decide ((0 : Int) ≤ l)) ([decide (c.time ≤ n) && decide ((0 : Int) ≤ l)] = [decide (c.time ≤ n) && decide ((0 : Int) ≤ l)] ∧
  SV.c (Value.int IntKind.u64 (IntKind.u64.wrap n)) = SV.c (Value.int IntKind.u64 (IntKind.u64.wrap n))) True ∧ sw (decide (c.time ≤ n) && decide ((0 : Int) ≤ l)) (SV.p (0 : Nat) (0 : Nat) = SV.p (0 : Nat) (0 : Nat)) True ∧
  sw (decide (c.time ≤ n) && decide ((0 : Int) ≤ l)) ([decide (c.time ≤ n) && decide ((0 : Int) ≤ l)] = [decide (c.time ≤ n) && decide ((0 : Int) ≤ l)] ∧
  SV.c (Value.int IntKind.i64 c.time) = SV.c (Value.int IntKind.i64 c.time)) True ∧ sw (decide (c.time ≤ n) && decide ((0 : Int) ≤ l)) ([decide (c.time ≤ n) && decide ((0 : Int) ≤ l)] = [decide (c.time ≤ n) && decide ((0 : Int) ≤ l)] ∧
  SV.c (Value.int IntKind.u64 (IntKind.u64.wrap c.time)) = SV.c (Value.int IntKind.u64 (IntKind.u64.wrap c.time))) True ∧ sw (decide (c.time ≤ n) && decide ((0 : Int) ≤ l)) ([decide (c.time ≤ n) && decide ((0 : Int) ≤ l)] = [decide (c.time ≤ n) && decide ((0 : Int) ≤ l)] ∧
  [decide (c.time ≤ n) && decide ((0 : Int) ≤ l)] = [decide (c.time ≤ n) && decide ((0 : Int) ≤ l)] ∧ True ∧ SV.c (Value.int IntKind.u64 (IntKind.u64.wrap (IntKind.u64.wrap n - IntKind.u64.wrap c.time))) = SV.c (Value.int IntKind.u64 (IntKind.u64.wrap (IntKind.u64.wrap n - IntKind.u64.wrap c.time)))) True ∧
  sw (decide (c.time ≤ n) && decide ((0 : Int) ≤ l)) (SV.c (Value.int IntKind.i64 l) = SV.c (Value.int IntKind.i64 l)) True ∧ sw (decide (c.time ≤ n) && decide ((0 : Int) ≤ l)) ([decide (c.time ≤ n) && decide ((0 : Int) ≤ l)] = [decide (c.time ≤ n) && decide ((0 : Int) ≤ l)] ∧
  SV.c (Value.int IntKind.u64 (IntKind.u64.wrap l)) = SV.c (Value.int IntKind.u64 (IntKind.u64.wrap l))) True ∧ sw (decide (c.time ≤ n) && decide ((0 : Int) ≤ l)) ([decide (c.time ≤ n) && decide ((0 : Int) ≤ l)] = [decide (c.time ≤ n) && decide ((0 : Int) ≤ l)] ∧
  [decide (c.time ≤ n) && decide ((0 : Int) ≤ l)] = [decide (c.time ≤ n) && decide ((0 : Int) ≤ l)] ∧ True ∧ SV.c (Value.bool (decide (IntKind.u64.wrap (IntKind.u64.wrap n - IntKind.u64.wrap c.time) ≤ IntKind.u64.wrap l))) = SV.c (Value.bool (decide (IntKind.u64.wrap (IntKind.u64.wrap n - IntKind.u64.wrap c.time) ≤ IntKind.u64.wrap l)))) True ∧
  [decide (c.time ≤ n) && decide ((0 : Int) ≤ l)] = [decide (c.time ≤ n) && decide ((0 : Int) ≤ l)] ∧ (decide (c.time ≤ n) && decide ((0 : Int) ≤ l) && decide (IntKind.u64.wrap (IntKind.u64.wrap n - IntKind.u64.wrap c.time) ≤ IntKind.u64.wrap l)) = freshF c.time n l ∧
  (true && true) = true := by
  simp only [↓sw_iff, ↓Bool.and_eq_true, ↓Bool.and_eq_false_iff, ↓decide_eq_true_eq, ↓decide_eq_false_iff_not, true_and, and_true, implies_true]
  intro c n l h1 h2 h3
  unfold freshF
  rw [IntKind.wrap_u64, IntKind.wrap_u64, IntKind.wrap_u64, IntKind.wrap_u64]
  by_cases a1 : c.time ≤ n
  · by_cases a2 : 0 ≤ l
    · simp only [a1, a2, decide_true, Bool.and_true, Bool.true_and, decide_eq_decide]
      omega
    · simp [a2]
  · simp [a1]
set_option maxRecDepth 100000 in
theorem ok19 : FnIs Try.prog 19 freshC := by
  refine fnIs (C := (ctrs c0)) (by kernel_rfl) c0_ok Try.func19 (code := code19) (by kernel_rfl) (by kernel_rfl) ?_
  rintro a ⟨c, n, l, rfl, h1, h2, h3⟩
  exact ⟨anns [], kcast (vc19 c n l h1 h2 h3) (by kernel_rfl)⟩

end Go.ZR

/- The statements of cookies: contracts. -/
set_option maxRecDepth 100000
namespace Go.ZM
open Go.Z Go.ZR
/-- A turn's byte; bytes of which some were turned. -/
def tbF (t : Int) (k : Nat) : Int := (t / 256 ^ k) % 256
def turnB (b : List Int) (i : Nat) (t : Int) : Nat → List Int
  | 0 => b
  | k + 1 => (turnB b i t k).set (i + k) (bits .xor .u8 ((turnB b i t k).getD (i + k) 0) (tbF t k))
end Go.ZM
namespace Go.ZR
open Go.Z Go.ZM Go.Proofs
def trueK (n : Nat) (pre : List O → Prop) : Ctr := nC n false pre fun _ => [bO true]
def k9 : List (Nat × Ctr) := [(39, sealC)]
theorem k9_ok : COk Try.prog (ctrs k9) := cok_cons ok39 cok_nil
def agesC : Ctr := trueK 3 fun a => ∃ t l d, a = [iO .u32 t, iO .u32 l, iO .u32 d] ∧ okU t ∧ okU l ∧ okU d
def sealsC : Ctr := trueK 2 fun a => ∃ k c, a = [iO .u64 k, cruO c] ∧ okCru c
def opensC : Ctr := trueK 2 fun a => ∃ k b, a = [iO .u64 k, bsO b] ∧ b.length ≤ 1048576 ∧ okB b
def turnsC : Ctr := trueK 4 fun a => ∃ k c i t, a = [iO .u64 k, cruO c, iO .u8 i, iO .u32 t] ∧ okCru c ∧ (0 ≤ i ∧ i ≤ 255) ∧ okU t
def turnAnn (s t : Nat) (n : Int) : LoopF := .fam (List Int × Nat) fun p =>
  { γ := Nat
    pre := fun k => k ≤ 4
    μ := fun k => 4 - k
    items := fun k => [(s, .c (iO .i64 (k : Int))), (t, .c (bsN (turnB p.1 p.2 n k)))] }
def k10 : List (Nat × Ctr) := [(18, ansKC), (19, freshC)]
def k11 : List (Nat × Ctr) := [(39, sealC), (40, sealC), (18, ansKC), (41, openC)]
def k12 : List (Nat × Ctr) := [(41, openC), (42, openC), (18, ansKC)]
def k13 : List (Nat × Ctr) := [(39, sealC), (18, ansKC), (41, openC)]
end Go.ZR

/- Cookies: what is sealed is opened; what was turned is told. -/
set_option maxRecDepth 100000
namespace Go.ZM
open Go.Z Go.ZR

theorem nAt_in {v a r : List Int} {n : Int} {k : Nat} (i : Nat) (h : v = a ++ (be n k ++ r)) (hi : a.length = i) : nAt v (i : Int) k = n % 256 ^ k := by
  subst hi
  have hl : v.length = a.length + (k + r.length) := by rw [h, List.length_append, List.length_append, be_len]
  unfold nAt getF
  rw [part_get (by omega) (by omega) (by omega) (by omega)]
  simp only [Int.toNat_natCast]
  rw [h, List.drop_append_of_le_length (Nat.le_refl _), List.drop_of_length_le (Nat.le_refl _), List.nil_append, List.take_append_of_le_length (by rw [be_len]; exact Nat.le_refl _), List.take_of_length_le (by rw [be_len]; exact Nat.le_refl _), val_be]
theorem sealB_len (k : Int) (c : CruR) : (sealB k c).length = 40 := by unfold sealB; rw [List.length_append, cruB_len, be_len]
theorem sealB_okB (k : Int) (c : CruR) : okB (sealB k c) := okB_append (cruB_okB c) (be_ok _ _)
theorem sum_rng (l : List Int) : 0 ≤ sumF l ∧ sumF l ≤ 4294967295 := iv_rng _
theorem sealB_take (k : Int) (c : CruR) : (sealB k c).take 36 = cruB c := by
  unfold sealB
  rw [List.take_append_of_le_length (by rw [cruB_len]; exact Nat.le_refl _), List.take_of_length_le (by rw [cruB_len]; exact Nat.le_refl _)]
theorem seal_sum (k : Int) (c : CruR) : nAt (sealB k c) 36 4 = keyF k ((sealB k c).take 36) := by
  have := nAt_in (v := sealB k c) (a := cruB c) (n := keyF k (cruB c)) (k := 4) (r := []) 36 (by unfold sealB; simp) (cruB_len c)
  rw [sealB_take]
  have h := sum_rng (be k 8 ++ cruB c ++ be k 8)
  rw [show (256 : Int) ^ 4 = 4294967296 from rfl] at this
  refine this.trans ?_
  unfold keyF
  omega
theorem open_seal {k : Int} {c : CruR} (ok : okCru c) (hs : soundF c = true) : openF k (sealB k c) = (c, 0) := by
  have p4 : (256 : Int) ^ 4 = 4294967296 := rfl
  have p8 : (256 : Int) ^ 8 = 18446744073709551616 := rfl
  obtain ⟨ht, h1, h2, h3, h4, h5, h6, h7⟩ := ok
  unfold okU at *
  have hs' := hs
  simp only [soundF, Bool.and_eq_true, decide_eq_true_eq, Bool.not_eq_true', decide_eq_false_iff_not] at hs'
  have e : cruOf (sealB k c) = c := by
    have a0 := nAt_in (v := sealB k c) (a := []) (n := c.time) (k := 8) (r := be c.a 4 ++ be c.b 4 ++ be c.c 4 ++ be c.d 4 ++ be c.e 4 ++ be c.f 4 ++ be c.g 4 ++ be (keyF k (cruB c)) 4) 0 (by simp [sealB, cruB]) rfl
    have a1 := nAt_in (v := sealB k c) (a := be c.time 8) (n := c.a) (k := 4) (r := be c.b 4 ++ be c.c 4 ++ be c.d 4 ++ be c.e 4 ++ be c.f 4 ++ be c.g 4 ++ be (keyF k (cruB c)) 4) 8 (by simp [sealB, cruB]) (by simp [be_len])
    have a2 := nAt_in (v := sealB k c) (a := be c.time 8 ++ be c.a 4) (n := c.b) (k := 4) (r := be c.c 4 ++ be c.d 4 ++ be c.e 4 ++ be c.f 4 ++ be c.g 4 ++ be (keyF k (cruB c)) 4) 12 (by simp [sealB, cruB]) (by simp [be_len])
    have a3 := nAt_in (v := sealB k c) (a := be c.time 8 ++ be c.a 4 ++ be c.b 4) (n := c.c) (k := 4) (r := be c.d 4 ++ be c.e 4 ++ be c.f 4 ++ be c.g 4 ++ be (keyF k (cruB c)) 4) 16 (by simp [sealB, cruB]) (by simp [be_len])
    have a4 := nAt_in (v := sealB k c) (a := be c.time 8 ++ be c.a 4 ++ be c.b 4 ++ be c.c 4) (n := c.d) (k := 4) (r := be c.e 4 ++ be c.f 4 ++ be c.g 4 ++ be (keyF k (cruB c)) 4) 20 (by simp [sealB, cruB]) (by simp [be_len])
    have a5 := nAt_in (v := sealB k c) (a := be c.time 8 ++ be c.a 4 ++ be c.b 4 ++ be c.c 4 ++ be c.d 4) (n := c.e) (k := 4) (r := be c.f 4 ++ be c.g 4 ++ be (keyF k (cruB c)) 4) 24 (by simp [sealB, cruB]) (by simp [be_len])
    have a6 := nAt_in (v := sealB k c) (a := be c.time 8 ++ be c.a 4 ++ be c.b 4 ++ be c.c 4 ++ be c.d 4 ++ be c.e 4) (n := c.f) (k := 4) (r := be c.g 4 ++ be (keyF k (cruB c)) 4) 28 (by simp [sealB, cruB]) (by simp [be_len])
    have a7 := nAt_in (v := sealB k c) (a := be c.time 8 ++ be c.a 4 ++ be c.b 4 ++ be c.c 4 ++ be c.d 4 ++ be c.e 4 ++ be c.f 4) (n := c.g) (k := 4) (r := be (keyF k (cruB c)) 4) 32 (by simp [sealB, cruB]) (by simp [be_len])
    rw [p8] at a0
    rw [p4] at a1 a2 a3 a4 a5 a6 a7
    unfold cruOf
    rw [show nAt (sealB k c) 0 8 = _ from a0, show nAt (sealB k c) 8 4 = _ from a1, show nAt (sealB k c) 12 4 = _ from a2, show nAt (sealB k c) 16 4 = _ from a3, show nAt (sealB k c) 20 4 = _ from a4, show nAt (sealB k c) 24 4 = _ from a5, show nAt (sealB k c) 28 4 = _ from a6, show nAt (sealB k c) 32 4 = _ from a7]
    rw [show sI (c.time % 18446744073709551616) = c.time by unfold sI; rw [IntKind.wrap_i64]; omega]
    rw [Int.emod_eq_of_lt h1.1 (by omega), Int.emod_eq_of_lt h2.1 (by omega), Int.emod_eq_of_lt h3.1 (by omega), Int.emod_eq_of_lt h4.1 (by omega), Int.emod_eq_of_lt h5.1 (by omega), Int.emod_eq_of_lt h6.1 (by omega), Int.emod_eq_of_lt h7.1 (by omega)]
  rw [open_ok (sealB_len k c) (seal_sum k c) (by rw [e]; exact hs), e]

/-! Four bytes in a row -/
def w4 (x0 x1 x2 x3 : Int) : BitVec 32 := bv x0 ^^^ (bv x1 <<< 8) ^^^ (bv x2 <<< 16) ^^^ (bv x3 <<< 24)
def isB (x : Int) : Prop := 0 ≤ x ∧ x ≤ 255
theorem byte_high {x : Int} (h : isB x) {i : Nat} (hi : 8 ≤ i) : (bv x).getLsbD i = false := by
  have e := iv_bv h.1 (show x ≤ 4294967295 by have := h.2; omega)
  unfold iv at e
  rw [BitVec.getLsbD]
  apply Nat.testBit_lt_two_pow
  have : 2 ^ 8 ≤ 2 ^ i := Nat.pow_le_pow_right (by decide) hi
  have := h.2
  omega
theorem shl_bits {x : Int} (h : isB x) (n : Nat) (hn : n ≤ 24) (A : BitVec 32) : sN n (A ^^^ (bv x <<< n)) = sN n A ^^^ bv x := by
  rw [sN_xor]
  congr 1
  rw [sN_shr n _ (fun i hi => by rw [BitVec.getLsbD_shiftLeft]; simp [hi])]
  apply BitVec.eq_of_getLsbD_eq
  intro i hi
  rw [BitVec.getLsbD_ushiftRight, BitVec.getLsbD_shiftLeft]
  by_cases h8 : i < 8
  · have : n + i < 32 := by omega
    simp [this]
  · rw [byte_high h (by omega)]
    simp [byte_high h (show 8 ≤ i by omega)]
theorem crc_four (c : BitVec 32) {x0 x1 x2 x3 : Int} (_h0 : isB x0) (h1 : isB x1) (h2 : isB x2) (h3 : isB x3) : crcR c [x0, x1, x2, x3] = sN 32 (c ^^^ w4 x0 x1 x2 x3) := by
  have e3 := shl_bits h3 24 (by decide) (c ^^^ bv x0 ^^^ (bv x1 <<< 8) ^^^ (bv x2 <<< 16))
  have e2 := shl_bits h2 16 (by decide) (c ^^^ bv x0 ^^^ (bv x1 <<< 8))
  have e1 := shl_bits h1 8 (by decide) (c ^^^ bv x0)
  have a : c ^^^ w4 x0 x1 x2 x3 = c ^^^ bv x0 ^^^ (bv x1 <<< 8) ^^^ (bv x2 <<< 16) ^^^ (bv x3 <<< 24) := by
    unfold w4; simp only [BitVec.xor_assoc]
  rw [a, show sN 32 = sN (8 + 24) from rfl, sN_add, e3, show sN 24 = sN (8 + 16) from rfl, sN_add, e2, show sN 16 = sN (8 + 8) from rfl, sN_add, e1]
  rfl
theorem w4_bit {x0 x1 x2 x3 : Int} (h0 : isB x0) (h1 : isB x1) (h2 : isB x2) (_h3 : isB x3) {j : Nat} (hj : j < 8) :
    ((w4 x0 x1 x2 x3).getLsbD j = (bv x0).getLsbD j ∧ (w4 x0 x1 x2 x3).getLsbD (8 + j) = (bv x1).getLsbD j) ∧ ((w4 x0 x1 x2 x3).getLsbD (16 + j) = (bv x2).getLsbD j ∧ (w4 x0 x1 x2 x3).getLsbD (24 + j) = (bv x3).getLsbD j) := by
  unfold w4
  simp only [BitVec.getLsbD_xor, BitVec.getLsbD_shiftLeft]
  refine ⟨⟨?_, ?_⟩, ?_, ?_⟩
  · simp [show j < 16 by omega, show j < 24 by omega, hj]
  · rw [byte_high h0 (by omega)]
    simp [show 8 + j < 16 by omega, show 8 + j < 24 by omega, show 8 + j < 32 by omega]
  · rw [byte_high h0 (by omega), byte_high h1 (show 8 ≤ 16 + j - 8 by omega)]
    simp [show 16 + j < 24 by omega, show 16 + j < 32 by omega]
  · rw [byte_high h0 (by omega), byte_high h1 (show 8 ≤ 24 + j - 8 by omega), byte_high h2 (show 8 ≤ 24 + j - 16 by omega)]
    simp [show 24 + j < 32 by omega]
theorem byte_ext {x y : Int} (hx : isB x) (hy : isB y) (h : ∀ j, j < 8 → (bv x).getLsbD j = (bv y).getLsbD j) : x = y := by
  have : bv x = bv y := by
    apply BitVec.eq_of_getLsbD_eq
    intro i _
    by_cases h8 : i < 8
    · exact h i h8
    · rw [byte_high hx (by omega), byte_high hy (by omega)]
  have e1 := iv_bv hx.1 (show x ≤ 4294967295 by have := hx.2; omega)
  have e2 := iv_bv hy.1 (show y ≤ 4294967295 by have := hy.2; omega)
  rw [← e1, ← e2, this]
theorem four_inj {c : BitVec 32} {x0 x1 x2 x3 y0 y1 y2 y3 : Int} (h0 : isB x0) (h1 : isB x1) (h2 : isB x2) (h3 : isB x3) (g0 : isB y0) (g1 : isB y1) (g2 : isB y2) (g3 : isB y3)
    (h : crcR c [x0, x1, x2, x3] = crcR c [y0, y1, y2, y3]) : (x0 = y0 ∧ x1 = y1) ∧ x2 = y2 ∧ x3 = y3 := by
  rw [crc_four c h0 h1 h2 h3, crc_four c g0 g1 g2 g3] at h
  have e : w4 x0 x1 x2 x3 = w4 y0 y1 y2 y3 := by
    rw [sN_xor, sN_xor] at h
    have h' := congrArg (fun z => sN 32 c ^^^ z) h
    simp only [← BitVec.xor_assoc, BitVec.xor_self, BitVec.zero_xor] at h'
    have h2 : sN 32 (w4 x0 x1 x2 x3 ^^^ w4 y0 y1 y2 y3) = 0#32 := by rw [sN_xor, h', BitVec.xor_self]
    have h3 := sN_inj 32 h2
    have := congrArg (fun z => w4 x0 x1 x2 x3 ^^^ z) h3
    simpa [← BitVec.xor_assoc] using this.symm
  refine ⟨⟨byte_ext h0 g0 fun j hj => ?_, byte_ext h1 g1 fun j hj => ?_⟩, byte_ext h2 g2 fun j hj => ?_, byte_ext h3 g3 fun j hj => ?_⟩
  · rw [← (w4_bit h0 h1 h2 h3 hj).1.1, e, (w4_bit g0 g1 g2 g3 hj).1.1]
  · rw [← (w4_bit h0 h1 h2 h3 hj).1.2, e, (w4_bit g0 g1 g2 g3 hj).1.2]
  · rw [← (w4_bit h0 h1 h2 h3 hj).2.1, e, (w4_bit g0 g1 g2 g3 hj).2.1]
  · rw [← (w4_bit h0 h1 h2 h3 hj).2.2, e, (w4_bit g0 g1 g2 g3 hj).2.2]

/-! Bytes turned -/
theorem xor8_isB (x t : Int) : isB (bits .xor .u8 x t) := by
  show 0 ≤ IntKind.u8.wrap _ ∧ IntKind.u8.wrap _ ≤ 255
  rw [IntKind.wrap_u8]; omega
theorem xor8_same {x t : Int} (hx : isB x) (ht : isB t) (h : bits .xor .u8 x t = x) : t = 0 := by
  have h' : IntKind.u8.wrap ((BitVec.ofInt 8 x ^^^ BitVec.ofInt 8 t).toNat : Int) = x := h
  rw [IntKind.wrap_u8] at h'
  have hx1 : (BitVec.ofInt 8 x).toNat = x.toNat := by rw [BitVec.toNat_ofInt]; unfold isB at hx; omega
  have ht1 : (BitVec.ofInt 8 t).toNat = t.toNat := by rw [BitVec.toNat_ofInt]; unfold isB at ht; omega
  have lt := (BitVec.ofInt 8 x ^^^ BitVec.ofInt 8 t).isLt
  have e : BitVec.ofInt 8 x ^^^ BitVec.ofInt 8 t = BitVec.ofInt 8 x := by
    apply BitVec.eq_of_toNat_eq
    rw [hx1]
    unfold isB at hx
    omega
  have e2 := congrArg (fun z => BitVec.ofInt 8 x ^^^ z) e
  simp only [← BitVec.xor_assoc, BitVec.xor_self, BitVec.zero_xor] at e2
  rw [e2] at ht1
  have : (0#8).toNat = 0 := rfl
  unfold isB at ht
  omega
theorem tb_isB (t : Int) (k : Nat) : isB (tbF t k) := by unfold isB tbF; omega
theorem tb_zero {t : Int} (h : okU t) (h0 : tbF t 0 = 0) (h1 : tbF t 1 = 0) (h2 : tbF t 2 = 0) (h3 : tbF t 3 = 0) : t = 0 := by
  unfold tbF at *
  unfold okU at h
  simp only [show (256 : Int) ^ 0 = 1 from rfl, show (256 : Int) ^ 1 = 256 from rfl, show (256 : Int) ^ 2 = 65536 from rfl, show (256 : Int) ^ 3 = 16777216 from rfl] at *
  omega
theorem turnB_len (b : List Int) (i : Nat) (t : Int) : ∀ k, (turnB b i t k).length = b.length
  | 0 => rfl
  | k + 1 => by rw [turnB, List.length_set, turnB_len b i t k]
theorem turnB_okB {b : List Int} (h : okB b) (i : Nat) (t : Int) : ∀ k, okB (turnB b i t k)
  | 0 => h
  | k + 1 => by
    rw [turnB]
    intro x hx
    rcases List.mem_or_eq_of_mem_set hx with h1 | h1
    · exact turnB_okB h i t k x h1
    · rw [h1]; exact xor8_isB _ _
theorem getD_set (l : List Int) (i j : Nat) (a : Int) (hi : i < l.length) : (l.set i a).getD j 0 = if i = j then a else l.getD j 0 := by
  simp only [List.getD, List.getElem?_set]
  by_cases e : i = j
  · subst e; simp [hi]
  · simp [e]
theorem turnB_get {b : List Int} {i : Nat} (t : Int) : ∀ {k : Nat}, i + k ≤ b.length → ∀ j, (turnB b i t k).getD j 0 = if i ≤ j ∧ j < i + k then bits .xor .u8 (b.getD j 0) (tbF t (j - i)) else b.getD j 0
  | 0, _, j => by rw [if_neg (by omega)]; rfl
  | k + 1, h, j => by
    rw [turnB, getD_set _ _ _ _ (by rw [turnB_len]; omega), turnB_get t (by omega), turnB_get t (by omega)]
    by_cases e : i + k = j
    · subst e
      rw [if_pos rfl, if_neg (by omega), if_pos (by omega), show i + k - i = k by omega]
    · rw [if_neg e]
      by_cases h1 : i ≤ j ∧ j < i + k
      · rw [if_pos h1, if_pos (by omega)]
      · rw [if_neg h1, if_neg (by omega)]
theorem ext_getD {l m : List Int} (hl : l.length = m.length) (h : ∀ j, j < l.length → l.getD j 0 = m.getD j 0) : l = m := by
  apply List.ext_getElem hl
  intro j h1 h2
  have := h j h1
  simpa [List.getD, List.getElem?_eq_getElem h1, List.getElem?_eq_getElem h2] using this
/-- A stretch of four. -/
theorem four_split {l : List Int} {i : Nat} (h : i + 4 ≤ l.length) : l = l.take i ++ ([l.getD i 0, l.getD (i + 1) 0, l.getD (i + 2) 0, l.getD (i + 3) 0] ++ l.drop (i + 4)) := by
  have e0 := take_succ_getD (l := l) (j := i) (by omega)
  have e1 := take_succ_getD (l := l) (j := i + 1) (by omega)
  have e2 := take_succ_getD (l := l) (j := i + 2) (by omega)
  have e3 := take_succ_getD (l := l) (j := i + 3) (by omega)
  have : l.take (i + 4) = l.take i ++ [l.getD i 0, l.getD (i + 1) 0, l.getD (i + 2) 0, l.getD (i + 3) 0] := by
    rw [show i + 4 = i + 3 + 1 from rfl, e3, e2, e1, e0]; simp
  rw [← List.append_assoc, ← this, List.take_append_drop]
theorem turn_take {b : List Int} {i n : Nat} {t : Int} (h : i + 4 ≤ b.length) (hn : n ≤ i) : (turnB b i t 4).take n = b.take n := by
  apply ext_getD (by simp [turnB_len])
  intro j hj
  rw [List.length_take] at hj
  have a : ∀ l : List Int, (l.take n).getD j 0 = l.getD j 0 := fun l => by simp [List.getD, show j < n by omega]
  rw [a, a, turnB_get t h, if_neg (by omega)]
theorem turn_drop {b : List Int} {i n : Nat} {t : Int} (h : i + 4 ≤ b.length) (hn : i + 4 ≤ n) : (turnB b i t 4).drop n = b.drop n := by
  apply ext_getD (by simp [turnB_len])
  intro j _
  have a : ∀ l : List Int, (l.drop n).getD j 0 = l.getD (n + j) 0 := fun l => by simp [List.getD]
  rw [a, a, turnB_get t h, if_neg (by omega)]
/-- If the four are still the same, nothing was turned. -/
theorem turn_same {b : List Int} (hb : okB b) {i : Nat} {t : Int} (h : i + 4 ≤ b.length) (ht : okU t) (e : ∀ j, j < 4 → (turnB b i t 4).getD (i + j) 0 = b.getD (i + j) 0) : t = 0 := by
  have key : ∀ j, j < 4 → tbF t j = 0 := fun j hj => by
    have := e j hj
    rw [turnB_get t h, if_pos (by omega), show i + j - i = j by omega] at this
    exact xor8_same (okB_getD hb _) (tb_isB _ _) this
  exact tb_zero ht (key 0 (by decide)) (key 1 (by decide)) (key 2 (by decide)) (key 3 (by decide))
/-- The register of bytes of which up to 32 bits in a row were turned is another one. -/
theorem turn_crc {b : List Int} (hb : okB b) {i : Nat} {t : Int} (h : i + 4 ≤ b.length) (ht : okU t) (h0 : t ≠ 0) (c : BitVec 32) : crcR c (turnB b i t 4) ≠ crcR c b := by
  intro e
  have hb' := turnB_okB hb i t 4
  have hl := turnB_len b i t 4
  have s1 := four_split (l := b) h
  have s2 := four_split (l := turnB b i t 4) (i := i) (by omega)
  rw [turn_take h (Nat.le_refl _), turn_drop h (Nat.le_refl _)] at s2
  have e1 := congrArg (crcR c) s1
  have e2 := congrArg (crcR c) s2
  rw [crcR_append, crcR_append] at e1 e2
  rw [e1, e2] at e
  have e := crcR_inj e
  have q : ∀ j, isB (b.getD j 0) := fun j => okB_getD hb j
  have q' : ∀ j, isB ((turnB b i t 4).getD j 0) := fun j => okB_getD hb' j
  obtain ⟨⟨a0, a1⟩, a2, a3⟩ := four_inj (q' _) (q' _) (q' _) (q' _) (q _) (q _) (q _) (q _) e
  refine h0 (turn_same hb h ht fun j hj => ?_)
  match j, hj with
  | 0, _ => exact a0
  | 1, _ => exact a1
  | 2, _ => exact a2
  | 3, _ => exact a3
theorem key_inj {k : Int} {m n : List Int} (h : keyF k m = keyF k n) : crcR (crcR (~~~ bv 0) (be k 8)) m = crcR (crcR (~~~ bv 0) (be k 8)) n := by
  unfold keyF sumF moreF iv at h
  have h : (~~~ crcR (~~~ bv 0) (be k 8 ++ m ++ be k 8)) = ~~~ crcR (~~~ bv 0) (be k 8 ++ n ++ be k 8) := BitVec.eq_of_toNat_eq (by omega)
  have h := congrArg (fun z => ~~~ z) h
  simp only [BitVec.not_not] at h
  rw [crcR_append, crcR_append, crcR_append, crcR_append] at h
  exact crcR_inj h
theorem nAt_drop {v : List Int} {i k : Nat} (h : i + k ≤ v.length) : nAt v (i : Int) k = valF ((v.drop i).take k) := by
  unfold nAt getF
  rw [part_get (by omega) (by omega) (by omega) (by omega)]
  simp only [Int.toNat_natCast]
theorem turn_open {k : Int} {c : CruR} {i : Nat} {t : Int} (hi : i + 4 ≤ 36 ∨ i = 36) (ht : okU t) (h0 : t ≠ 0) : openF k (turnB (sealB k c) i t 4) = (noCru, 5) := by
  have hb := sealB_okB k c
  have hl := sealB_len k c
  have hs := seal_sum k c
  generalize sealB k c = b at *
  have h : i + 4 ≤ b.length := by omega
  have hl' := turnB_len b i t 4
  refine open_sum (by omega) fun e => ?_
  have n1 : nAt b 36 4 = valF ((b.drop 36).take 4) := nAt_drop (i := 36) (k := 4) (by omega)
  have n2 : nAt (turnB b i t 4) 36 4 = valF (((turnB b i t 4).drop 36).take 4) := nAt_drop (i := 36) (k := 4) (by omega)
  rcases hi with hi | rfl
  · rw [n2, turn_drop h hi, ← n1, hs] at e
    have e2 := key_inj e
    have et : (turnB b i t 4).take 36 = turnB (b.take 36) i t 4 := by
      apply ext_getD (by simp [turnB_len])
      intro j hj
      rw [List.length_take] at hj
      have a : ∀ l : List Int, (l.take 36).getD j 0 = l.getD j 0 := fun l => by simp [List.getD, show j < 36 by omega]
      rw [a, turnB_get t h, turnB_get t (by rw [List.length_take]; omega), a]
    rw [et] at e2
    exact turn_crc (okB_take hb 36) (by rw [List.length_take]; omega) ht h0 _ e2.symm
  · rw [turn_take h (Nat.le_refl _), ← hs, n1, n2] at e
    have hb' := turnB_okB hb 36 t 4
    have v1 := be_val (okB_take (okB_drop hb' 36) 4)
    have v2 := be_val (okB_take (okB_drop hb 36) 4)
    have l1 : (((turnB b 36 t 4).drop 36).take 4).length = 4 := by simp; omega
    have l2 : ((b.drop 36).take 4).length = 4 := by simp; omega
    rw [l1] at v1
    rw [l2] at v2
    rw [e, v2] at v1
    refine h0 (turn_same hb h ht fun j hj => ?_)
    have a : ∀ l : List Int, ((l.drop 36).take 4).getD j 0 = l.getD (36 + j) 0 := fun l => by simp [List.getD, hj]
    rw [← a, ← a, v1]
end Go.ZM

/- The statements of cookies: walked. -/
namespace Go.ZR
open Go.Proofs
open Go.Z Go.ZM Go.RowKit
set_option maxRecDepth 100000
theorem sealed {k : Int} {c : CruR} (h : (sealF k c).2 = 0) : soundF c = true ∧ sealF k c = (sealB k c, 0) := by
  unfold sealF at h ⊢
  split at h
  · rename_i hs; exact ⟨hs, by rw [if_pos hs]⟩
  · cases h
theorem sealF_len {k : Int} {c : CruR} (h : (sealF k c).2 = 0) : ((sealF k c).1.length : Int) = 40 := by
  rw [(sealed h).2]; exact congrArg Int.ofNat (sealB_len k c)
theorem tb_shift (t : Int) (g : Nat) (hg : g < 4) : IntKind.u8.wrap (t.fdiv (2 ^ min (IntKind.u64.wrap (IntKind.i64.wrap (8 * (g : Int)))).toNat IntKind.u32.bits)) = tbF t g := by
  rw [show (IntKind.u64.wrap (IntKind.i64.wrap (8 * (g : Int)))).toNat = 8 * g by rw [IntKind.wrap_i64, IntKind.wrap_u64]; omega]
  rw [show min (8 * g) IntKind.u32.bits = 8 * g from Nat.min_eq_left (by show 8 * g ≤ 32; omega), IntKind.wrap_u8, Int.fdiv_eq_ediv_of_nonneg _ (Int.le_of_lt (Int.pow_pos (by decide))), Int.pow_mul]
  rfl
theorem turn_walk {k : Int} {c : CruR} {t : Int} (n : Nat) (hn : n + 4 ≤ 36 ∨ n = 36) (ht : okU t) (h0 : t ≠ 0) :
    ∃ (p : List Int × Nat) (g0 : Nat), g0 ≤ 4 ∧ (0 : Int) = (g0 : Int) ∧ sealB k c = turnB p.fst p.snd t g0 ∧ ∀ g : Nat, g ≤ 4 →
      ((g : Int) < 4 → (0 ≤ IntKind.i64.wrap ((n : Int) + g) ∧ IntKind.i64.wrap ((n : Int) + g) < ((turnB p.fst p.snd t g).length : Int)) ∧ 0 ≤ IntKind.u64.wrap (IntKind.i64.wrap (8 * (g : Int))) ∧
        (0 ≤ IntKind.i64.wrap ((n : Int) + g) ∧ IntKind.i64.wrap ((n : Int) + g) < ((turnB p.fst p.snd t g).length : Int)) ∧
        ∃ g' : Nat, g' ≤ 4 ∧ 4 - g' < 4 - g ∧ IntKind.i64.wrap ((g : Int) + 1) = (g' : Int) ∧
          (turnB p.fst p.snd t g).set (IntKind.i64.wrap ((n : Int) + g)).toNat (bits BinOp.xor IntKind.u8 ((turnB p.fst p.snd t g).getD (IntKind.i64.wrap ((n : Int) + g)).toNat 0)
            (IntKind.u8.wrap (t.fdiv (2 ^ min (IntKind.u64.wrap (IntKind.i64.wrap (8 * (g : Int)))).toNat IntKind.u32.bits)))) = turnB p.fst p.snd t g') ∧
      (¬ (g : Int) < 4 → (∃ (k_1 : Int) (b : List Int), [O.d (D.v (Value.int IntKind.u64 k)), O.d (D.ints IntKind.u8 (turnB p.fst p.snd t g))] = [O.d (D.v (Value.int IntKind.u64 k_1)), O.d (D.ints IntKind.u8 b)] ∧ b.length ≤ 1048576 ∧ okB b) ∧
        openF k (turnB p.fst p.snd t g) = (noCru, 5)) := by
  refine ⟨(sealB k c, n), 0, by omega, rfl, rfl, fun g hg => ⟨fun h => ?_, fun h => ?_⟩⟩
  · have hl := turnB_len (sealB k c) n t g
    rw [sealB_len] at hl
    have e : IntKind.i64.wrap ((n : Int) + g) = ((n + g : Nat) : Int) := by rw [wrap_i64_id (by omega) (by omega)]; omega
    simp only
    rw [e, tb_shift t g (by omega), hl]
    exact ⟨⟨by omega, by omega⟩, by rw [IntKind.wrap_u64]; omega, ⟨by omega, by omega⟩, g + 1, by omega, by omega, by rw [wrap_i64_id (by omega) (by omega)]; omega, by rw [Int.toNat_natCast]; rfl⟩
  · have : g = 4 := by omega
    subst this
    exact ⟨⟨k, _, rfl, by rw [turnB_len, sealB_len]; decide, turnB_okB (sealB_okB k c) _ _ _⟩, turn_open hn ht h0⟩
noncomputable def code18 : Code := match Try.f18.body with | some c => c | none => .skip
set_option maxHeartbeats 4000000 in
theorem vc18 : (∃ (k : Int), ∃ (c : CruR), [O.d (D.v (Value.int IntKind.u64 (7 : Int))), O.agg [O.d (D.v (Value.int IntKind.i64 (5 : Int))), O.d (D.v (Value.int IntKind.u32 (1 : Int))), O.d (D.v (Value.int IntKind.u32 (2 : Int))), O.d (D.v (Value.int IntKind.u32 (0 : Int))), O.d (D.v (Value.int IntKind.u32 (0 : Int))), O.d (D.v (Value.int IntKind.u32 (0 : Int))), O.d (D.v (Value.int IntKind.u32 (0 : Int))), O.d (D.v (Value.int IntKind.u32 (0 : Int)))]] = [O.d (D.v (Value.int IntKind.u64 k)), O.agg [O.d (D.v (Value.int IntKind.i64 c.time)), O.d (D.v (Value.int IntKind.u32 c.a)), O.d (D.v (Value.int IntKind.u32 c.b)), O.d (D.v (Value.int IntKind.u32 c.c)), O.d (D.v (Value.int IntKind.u32 c.d)), O.d (D.v (Value.int IntKind.u32 c.e)), O.d (D.v (Value.int IntKind.u32 c.f)), O.d (D.v (Value.int IntKind.u32 c.g))]] ∧
  okCru c) ∧ True ∧ SV.a (0 : Nat) = SV.a (0 : Nat) ∧ ([decide ((sealF (7 : Int) (CruR.mk (5 : Int) (1 : Int) (2 : Int) (0 : Int) (0 : Int) (0 : Int) (0 : Int) (0 : Int))).snd = (0 : Int))] = [decide ((sealF (7 : Int) (CruR.mk (5 : Int) (1 : Int) (2 : Int) (0 : Int) (0 : Int) (0 : Int) (0 : Int) (0 : Int))).snd = (0 : Int))] ∧
  SV.c (Value.int IntKind.i64 (↑(40 : Nat) : Int)) = SV.c (Value.int IntKind.i64 (↑(40 : Nat) : Int))) ∧ ([decide ((sealF (7 : Int) (CruR.mk (5 : Int) (1 : Int) (2 : Int) (0 : Int) (0 : Int) (0 : Int) (0 : Int) (0 : Int))).snd = (0 : Int))] = [decide ((sealF (7 : Int) (CruR.mk (5 : Int) (1 : Int) (2 : Int) (0 : Int) (0 : Int) (0 : Int) (0 : Int) (0 : Int))).snd = (0 : Int))] ∧
  True ∧ SV.c (Value.bool (decide ((↑(40 : Nat) : Int) = (40 : Int)))) = SV.c (Value.bool (decide ((↑(40 : Nat) : Int) = (40 : Int))))) ∧ [decide ((sealF (7 : Int) (CruR.mk (5 : Int) (1 : Int) (2 : Int) (0 : Int) (0 : Int) (0 : Int) (0 : Int) (0 : Int))).snd = (0 : Int))] = [decide ((sealF (7 : Int) (CruR.mk (5 : Int) (1 : Int) (2 : Int) (0 : Int) (0 : Int) (0 : Int) (0 : Int) (0 : Int))).snd = (0 : Int))] ∧
  (decide ((sealF (7 : Int) (CruR.mk (5 : Int) (1 : Int) (2 : Int) (0 : Int) (0 : Int) (0 : Int) (0 : Int) (0 : Int))).snd = (0 : Int)) && decide ((↑(40 : Nat) : Int) = (40 : Int))) = true ∧
  (true && true) = true := by
  simp only [↓Bool.and_eq_true, ↓decide_eq_true_eq, true_and, and_true]
  refine ⟨⟨7, ⟨5, 1, 2, 0, 0, 0, 0, 0⟩, rfl, ?_⟩, rfl, rfl⟩
  unfold okCru okU
  simp only
  omega
set_option maxRecDepth 100000 in
theorem ok18 : FnIs Try.prog 18 ansKC := by
  refine fnIs (C := (ctrs k9)) (by kernel_rfl) k9_ok Try.func18 (code := code18) (by kernel_rfl) (by kernel_rfl) ?_
  rintro a rfl
  exact ⟨anns [], kcast (vc18) (by kernel_rfl)⟩

theorem k10_ok : COk Try.prog (ctrs k10) := cok_cons ok18 (cok_cons ok19 cok_nil)
theorem k11_ok : COk Try.prog (ctrs k11) := cok_cons ok39 (cok_cons ok40 (cok_cons ok18 (cok_cons ok41 cok_nil)))
theorem k12_ok : COk Try.prog (ctrs k12) := cok_cons ok41 (cok_cons ok42 (cok_cons ok18 cok_nil))
theorem k13_ok : COk Try.prog (ctrs k13) := cok_cons ok39 (cok_cons ok18 (cok_cons ok41 cok_nil))

noncomputable def code4 : Code := match Try.f4.body with | some c => c | none => .skip
set_option maxHeartbeats 4000000 in
theorem vc4 : ∀ (t l d : Int), okU t → okU l → okU d → ([] : List O) = [] ∧ (∃ (c : CruR), ∃ (n : Int), ∃ (l_1 : Int), [O.agg [O.d (D.v (Value.int IntKind.i64 (IntKind.i64.wrap t))), O.d (D.v (Value.int IntKind.u32 (1 : Int))), O.d (D.v (Value.int IntKind.u32 (1 : Int))), O.d (D.v (Value.int IntKind.u32 (0 : Int))), O.d (D.v (Value.int IntKind.u32 (0 : Int))), O.d (D.v (Value.int IntKind.u32 (0 : Int))), O.d (D.v (Value.int IntKind.u32 (0 : Int))), O.d (D.v (Value.int IntKind.u32 (0 : Int)))], O.d (D.v (Value.int IntKind.i64 (IntKind.i64.wrap t))), O.d (D.v (Value.int IntKind.i64 (IntKind.i64.wrap l)))] = [O.agg [O.d (D.v (Value.int IntKind.i64 c.time)), O.d (D.v (Value.int IntKind.u32 c.a)), O.d (D.v (Value.int IntKind.u32 c.b)), O.d (D.v (Value.int IntKind.u32 c.c)), O.d (D.v (Value.int IntKind.u32 c.d)), O.d (D.v (Value.int IntKind.u32 c.e)), O.d (D.v (Value.int IntKind.u32 c.f)), O.d (D.v (Value.int IntKind.u32 c.g))], O.d (D.v (Value.int IntKind.i64 n)), O.d (D.v (Value.int IntKind.i64 l_1))] ∧
  ((-1099511627776 : Int) ≤ c.time ∧ c.time ≤ (1099511627776 : Int)) ∧ ((-1099511627776 : Int) ≤ n ∧ n ≤ (1099511627776 : Int)) ∧ (-1099511627776 : Int) ≤ l_1 ∧
  l_1 ≤ (1099511627776 : Int)) ∧ sw (freshF (IntKind.i64.wrap t) (IntKind.i64.wrap t) (IntKind.i64.wrap l)) (True ∧ (∃ (c : CruR), ∃ (n : Int), ∃ (l_1 : Int), [O.agg [O.d (D.v (Value.int IntKind.i64 (IntKind.i64.wrap t))), O.d (D.v (Value.int IntKind.u32 (1 : Int))), O.d (D.v (Value.int IntKind.u32 (1 : Int))), O.d (D.v (Value.int IntKind.u32 (0 : Int))), O.d (D.v (Value.int IntKind.u32 (0 : Int))), O.d (D.v (Value.int IntKind.u32 (0 : Int))), O.d (D.v (Value.int IntKind.u32 (0 : Int))), O.d (D.v (Value.int IntKind.u32 (0 : Int)))], O.d (D.v (Value.int IntKind.i64 (IntKind.i64.wrap (IntKind.i64.wrap t + IntKind.i64.wrap l)))), O.d (D.v (Value.int IntKind.i64 (IntKind.i64.wrap l)))] = [O.agg [O.d (D.v (Value.int IntKind.i64 c.time)), O.d (D.v (Value.int IntKind.u32 c.a)), O.d (D.v (Value.int IntKind.u32 c.b)), O.d (D.v (Value.int IntKind.u32 c.c)), O.d (D.v (Value.int IntKind.u32 c.d)), O.d (D.v (Value.int IntKind.u32 c.e)), O.d (D.v (Value.int IntKind.u32 c.f)), O.d (D.v (Value.int IntKind.u32 c.g))], O.d (D.v (Value.int IntKind.i64 n)), O.d (D.v (Value.int IntKind.i64 l_1))] ∧
  ((-1099511627776 : Int) ≤ c.time ∧ c.time ≤ (1099511627776 : Int)) ∧ ((-1099511627776 : Int) ≤ n ∧ n ≤ (1099511627776 : Int)) ∧ (-1099511627776 : Int) ≤ l_1 ∧
  l_1 ≤ (1099511627776 : Int)) ∧ sw (freshF (IntKind.i64.wrap t) (IntKind.i64.wrap (IntKind.i64.wrap t + IntKind.i64.wrap l)) (IntKind.i64.wrap l)) (True ∧
  True ∧ True ∧ (∃ (c : CruR), ∃ (n : Int), ∃ (l_1 : Int), [O.agg [O.d (D.v (Value.int IntKind.i64 (IntKind.i64.wrap t))), O.d (D.v (Value.int IntKind.u32 (1 : Int))), O.d (D.v (Value.int IntKind.u32 (1 : Int))), O.d (D.v (Value.int IntKind.u32 (0 : Int))), O.d (D.v (Value.int IntKind.u32 (0 : Int))), O.d (D.v (Value.int IntKind.u32 (0 : Int))), O.d (D.v (Value.int IntKind.u32 (0 : Int))), O.d (D.v (Value.int IntKind.u32 (0 : Int)))], O.d (D.v (Value.int IntKind.i64 (IntKind.i64.wrap (IntKind.i64.wrap (IntKind.i64.wrap (IntKind.i64.wrap t + IntKind.i64.wrap l) + (1 : Int)) + IntKind.i64.wrap d)))), O.d (D.v (Value.int IntKind.i64 (IntKind.i64.wrap l)))] = [O.agg [O.d (D.v (Value.int IntKind.i64 c.time)), O.d (D.v (Value.int IntKind.u32 c.a)), O.d (D.v (Value.int IntKind.u32 c.b)), O.d (D.v (Value.int IntKind.u32 c.c)), O.d (D.v (Value.int IntKind.u32 c.d)), O.d (D.v (Value.int IntKind.u32 c.e)), O.d (D.v (Value.int IntKind.u32 c.f)), O.d (D.v (Value.int IntKind.u32 c.g))], O.d (D.v (Value.int IntKind.i64 n)), O.d (D.v (Value.int IntKind.i64 l_1))] ∧
  ((-1099511627776 : Int) ≤ c.time ∧ c.time ≤ (1099511627776 : Int)) ∧ ((-1099511627776 : Int) ≤ n ∧ n ≤ (1099511627776 : Int)) ∧ (-1099511627776 : Int) ≤ l_1 ∧
  l_1 ≤ (1099511627776 : Int)) ∧ sw (!freshF (IntKind.i64.wrap t) (IntKind.i64.wrap (IntKind.i64.wrap (IntKind.i64.wrap (IntKind.i64.wrap t + IntKind.i64.wrap l) + (1 : Int)) + IntKind.i64.wrap d)) (IntKind.i64.wrap l)) (True ∧
  True ∧ (∃ (c : CruR), ∃ (n : Int), ∃ (l_1 : Int), [O.agg [O.d (D.v (Value.int IntKind.i64 (IntKind.i64.wrap t))), O.d (D.v (Value.int IntKind.u32 (1 : Int))), O.d (D.v (Value.int IntKind.u32 (1 : Int))), O.d (D.v (Value.int IntKind.u32 (0 : Int))), O.d (D.v (Value.int IntKind.u32 (0 : Int))), O.d (D.v (Value.int IntKind.u32 (0 : Int))), O.d (D.v (Value.int IntKind.u32 (0 : Int))), O.d (D.v (Value.int IntKind.u32 (0 : Int)))], O.d (D.v (Value.int IntKind.i64 (IntKind.i64.wrap (IntKind.i64.wrap (IntKind.i64.wrap t - (1 : Int)) - IntKind.i64.wrap d)))), O.d (D.v (Value.int IntKind.i64 (IntKind.i64.wrap l)))] = [O.agg [O.d (D.v (Value.int IntKind.i64 c.time)), O.d (D.v (Value.int IntKind.u32 c.a)), O.d (D.v (Value.int IntKind.u32 c.b)), O.d (D.v (Value.int IntKind.u32 c.c)), O.d (D.v (Value.int IntKind.u32 c.d)), O.d (D.v (Value.int IntKind.u32 c.e)), O.d (D.v (Value.int IntKind.u32 c.f)), O.d (D.v (Value.int IntKind.u32 c.g))], O.d (D.v (Value.int IntKind.i64 n)), O.d (D.v (Value.int IntKind.i64 l_1))] ∧
  ((-1099511627776 : Int) ≤ c.time ∧ c.time ≤ (1099511627776 : Int)) ∧ ((-1099511627776 : Int) ≤ n ∧ n ≤ (1099511627776 : Int)) ∧ (-1099511627776 : Int) ≤ l_1 ∧
  l_1 ≤ (1099511627776 : Int)) ∧ sw (!freshF (IntKind.i64.wrap t) (IntKind.i64.wrap (IntKind.i64.wrap (IntKind.i64.wrap t - (1 : Int)) - IntKind.i64.wrap d)) (IntKind.i64.wrap l)) (True ∧
  (∃ (c : CruR), ∃ (n : Int), ∃ (l_1 : Int), [O.agg [O.d (D.v (Value.int IntKind.i64 (IntKind.i64.wrap t))), O.d (D.v (Value.int IntKind.u32 (1 : Int))), O.d (D.v (Value.int IntKind.u32 (1 : Int))), O.d (D.v (Value.int IntKind.u32 (0 : Int))), O.d (D.v (Value.int IntKind.u32 (0 : Int))), O.d (D.v (Value.int IntKind.u32 (0 : Int))), O.d (D.v (Value.int IntKind.u32 (0 : Int))), O.d (D.v (Value.int IntKind.u32 (0 : Int)))], O.d (D.v (Value.int IntKind.i64 (IntKind.i64.wrap (IntKind.i64.wrap t + IntKind.i64.wrap d)))), O.d (D.v (Value.int IntKind.i64 (IntKind.i64.wrap l)))] = [O.agg [O.d (D.v (Value.int IntKind.i64 c.time)), O.d (D.v (Value.int IntKind.u32 c.a)), O.d (D.v (Value.int IntKind.u32 c.b)), O.d (D.v (Value.int IntKind.u32 c.c)), O.d (D.v (Value.int IntKind.u32 c.d)), O.d (D.v (Value.int IntKind.u32 c.e)), O.d (D.v (Value.int IntKind.u32 c.f)), O.d (D.v (Value.int IntKind.u32 c.g))], O.d (D.v (Value.int IntKind.i64 n)), O.d (D.v (Value.int IntKind.i64 l_1))] ∧
  ((-1099511627776 : Int) ≤ c.time ∧ c.time ≤ (1099511627776 : Int)) ∧ ((-1099511627776 : Int) ≤ n ∧ n ≤ (1099511627776 : Int)) ∧ (-1099511627776 : Int) ≤ l_1 ∧
  l_1 ≤ (1099511627776 : Int)) ∧ True ∧ True ∧ (freshF (IntKind.i64.wrap t) (IntKind.i64.wrap (IntKind.i64.wrap t + IntKind.i64.wrap d)) (IntKind.i64.wrap l) == decide (d ≤ l)) = true ∧
  (true && true) = true) (false = true ∧ (true && true) = true)) (false = true ∧ (true && true) = true)) (false = true ∧ (true && true) = true)) (false = true ∧
  (true && true) = true) := by
  simp only [↓sw_iff, ↓Bool.and_eq_true, ↓Bool.not_eq_true', ↓Bool.not_eq_false', true_and, and_true]
  intro t l d ht hl hd
  unfold okU at ht hl hd
  have wt : IntKind.i64.wrap t = t := wrap_i64_id (by omega) (by omega)
  have wl : IntKind.i64.wrap l = l := wrap_i64_id (by omega) (by omega)
  have wd : IntKind.i64.wrap d = d := wrap_i64_id (by omega) (by omega)
  have w1 : IntKind.i64.wrap (t + l) = t + l := wrap_i64_id (by omega) (by omega)
  have w2 : IntKind.i64.wrap (t + l + 1) = t + l + 1 := wrap_i64_id (by omega) (by omega)
  have w3 : IntKind.i64.wrap (t + l + 1 + d) = t + l + 1 + d := wrap_i64_id (by omega) (by omega)
  have w4 : IntKind.i64.wrap (t - 1) = t - 1 := wrap_i64_id (by omega) (by omega)
  have w5 : IntKind.i64.wrap (t - 1 - d) = t - 1 - d := wrap_i64_id (by omega) (by omega)
  have w6 : IntKind.i64.wrap (t + d) = t + d := wrap_i64_id (by omega) (by omega)
  simp only [wt, wl, wd, w1, w2, w3, w4, w5, w6]
  have f1 : freshF t t l = true := by unfold freshF; simp only [Bool.and_eq_true, decide_eq_true_eq]; omega
  have f2 : freshF t (t + l) l = true := by unfold freshF; simp only [Bool.and_eq_true, decide_eq_true_eq]; omega
  have f3 : freshF t (t + l + 1 + d) l = false := by unfold freshF; simp only [Bool.and_eq_false_iff, decide_eq_false_iff_not]; omega
  have f4 : freshF t (t - 1 - d) l = false := by unfold freshF; simp only [Bool.and_eq_false_iff, decide_eq_false_iff_not]; omega
  have f5 : (freshF t (t + d) l == decide (d ≤ l)) = true := by
    unfold freshF
    rw [beq_iff_eq, Bool.eq_iff_iff]
    simp only [Bool.and_eq_true, decide_eq_true_eq]
    omega
  rw [f1, f2, f3, f4, f5]
  have P : ∀ n : Int, -4294967297 ≤ n → n ≤ 17179869184 → ∃ (c : CruR) (n' l' : Int), [O.agg [O.d (D.v (Value.int IntKind.i64 t)), O.d (D.v (Value.int IntKind.u32 1)), O.d (D.v (Value.int IntKind.u32 1)), O.d (D.v (Value.int IntKind.u32 0)), O.d (D.v (Value.int IntKind.u32 0)), O.d (D.v (Value.int IntKind.u32 0)), O.d (D.v (Value.int IntKind.u32 0)), O.d (D.v (Value.int IntKind.u32 0))], O.d (D.v (Value.int IntKind.i64 n)), O.d (D.v (Value.int IntKind.i64 l))] =
      [O.agg [O.d (D.v (Value.int IntKind.i64 c.time)), O.d (D.v (Value.int IntKind.u32 c.a)), O.d (D.v (Value.int IntKind.u32 c.b)), O.d (D.v (Value.int IntKind.u32 c.c)), O.d (D.v (Value.int IntKind.u32 c.d)), O.d (D.v (Value.int IntKind.u32 c.e)), O.d (D.v (Value.int IntKind.u32 c.f)), O.d (D.v (Value.int IntKind.u32 c.g))], O.d (D.v (Value.int IntKind.i64 n')), O.d (D.v (Value.int IntKind.i64 l'))] ∧
      (-1099511627776 ≤ c.time ∧ c.time ≤ 1099511627776) ∧ (-1099511627776 ≤ n' ∧ n' ≤ 1099511627776) ∧ -1099511627776 ≤ l' ∧ l' ≤ 1099511627776 :=
    fun n h1 h2 => ⟨⟨t, 1, 1, 0, 0, 0, 0, 0⟩, n, l, rfl, ⟨by simp only; omega, by simp only; omega⟩, by omega, by omega, by omega⟩
  simp only [P t (by omega) (by omega), P (t + l) (by omega) (by omega), P (t + l + 1 + d) (by omega) (by omega), P (t - 1 - d) (by omega) (by omega), P (t + d) (by omega) (by omega)]
  simp
set_option maxRecDepth 100000 in
theorem ok4 : FnIs Try.prog 4 agesC := by
  refine fnIs (C := (ctrs k10)) (by kernel_rfl) k10_ok Try.func4 (code := code4) (by kernel_rfl) (by kernel_rfl) ?_
  rintro a ⟨t, l, d, rfl, ht, hl, hd⟩
  exact ⟨anns [] [3], kcast (vc4 t l d ht hl hd) (by kernel_rfl)⟩

noncomputable def code10 : Code := match Try.f10.body with | some c => c | none => .skip
set_option maxHeartbeats 4000000 in
theorem vc10 : ∀ (k : Int) (c : CruR), okCru c → (∃ (k_1 : Int), ∃ (c_1 : CruR), [O.d (D.v (Value.int IntKind.u64 k)), O.agg [O.d (D.v (Value.int IntKind.i64 c.time)), O.d (D.v (Value.int IntKind.u32 c.a)), O.d (D.v (Value.int IntKind.u32 c.b)), O.d (D.v (Value.int IntKind.u32 c.c)), O.d (D.v (Value.int IntKind.u32 c.d)), O.d (D.v (Value.int IntKind.u32 c.e)), O.d (D.v (Value.int IntKind.u32 c.f)), O.d (D.v (Value.int IntKind.u32 c.g))]] = [O.d (D.v (Value.int IntKind.u64 k_1)), O.agg [O.d (D.v (Value.int IntKind.i64 c_1.time)), O.d (D.v (Value.int IntKind.u32 c_1.a)), O.d (D.v (Value.int IntKind.u32 c_1.b)), O.d (D.v (Value.int IntKind.u32 c_1.c)), O.d (D.v (Value.int IntKind.u32 c_1.d)), O.d (D.v (Value.int IntKind.u32 c_1.e)), O.d (D.v (Value.int IntKind.u32 c_1.f)), O.d (D.v (Value.int IntKind.u32 c_1.g))]] ∧
  okCru c_1) ∧ (∃ (k_1 : Int), ∃ (c_1 : CruR), [O.d (D.v (Value.int IntKind.u64 k)), O.agg [O.d (D.v (Value.int IntKind.i64 c.time)), O.d (D.v (Value.int IntKind.u32 c.a)), O.d (D.v (Value.int IntKind.u32 c.b)), O.d (D.v (Value.int IntKind.u32 c.c)), O.d (D.v (Value.int IntKind.u32 c.d)), O.d (D.v (Value.int IntKind.u32 c.e)), O.d (D.v (Value.int IntKind.u32 c.f)), O.d (D.v (Value.int IntKind.u32 c.g))]] = [O.d (D.v (Value.int IntKind.u64 k_1)), O.agg [O.d (D.v (Value.int IntKind.i64 c_1.time)), O.d (D.v (Value.int IntKind.u32 c_1.a)), O.d (D.v (Value.int IntKind.u32 c_1.b)), O.d (D.v (Value.int IntKind.u32 c_1.c)), O.d (D.v (Value.int IntKind.u32 c_1.d)), O.d (D.v (Value.int IntKind.u32 c_1.e)), O.d (D.v (Value.int IntKind.u32 c_1.f)), O.d (D.v (Value.int IntKind.u32 c_1.g))]] ∧
  okCru c_1) ∧ ([] : List O) = [] ∧ True ∧ sw (!decide ((bstr (sealF k (CruR.mk c.time c.a c.b c.c c.d c.e c.f c.g)).fst).data.toList = (bstr (sealF k (CruR.mk c.time c.a c.b c.c c.d c.e c.f c.g)).fst).data.toList)) (false = true ∧
  (true && true) = true) (True ∧ sw (!decide ((sealF k (CruR.mk c.time c.a c.b c.c c.d c.e c.f c.g)).snd = (sealF k (CruR.mk c.time c.a c.b c.c c.d c.e c.f c.g)).snd)) (false = true ∧
  (true && true) = true) (True ∧ sw (!decide ((sealF k (CruR.mk c.time c.a c.b c.c c.d c.e c.f c.g)).snd = (0 : Int))) (true = true ∧ (true && true) = true) ((∃ (k_1 : Int), ∃ (b : List Int), [O.d (D.v (Value.int IntKind.u64 k)), O.d (D.ints IntKind.u8 (sealF k (CruR.mk c.time c.a c.b c.c c.d c.e c.f c.g)).fst)] = [O.d (D.v (Value.int IntKind.u64 k_1)), O.d (D.ints IntKind.u8 b)] ∧
  b.length ≤ (1048576 : Nat) ∧ okB b) ∧ True ∧ sw (decide ((openF k (sealF k (CruR.mk c.time c.a c.b c.c c.d c.e c.f c.g)).fst).snd = (0 : Int))) ((decide ((openF k (sealF k (CruR.mk c.time c.a c.b c.c c.d c.e c.f c.g)).fst).fst.time = c.time) && (decide ((openF k (sealF k (CruR.mk c.time c.a c.b c.c c.d c.e c.f c.g)).fst).fst.a = c.a) && (decide ((openF k (sealF k (CruR.mk c.time c.a c.b c.c c.d c.e c.f c.g)).fst).fst.b = c.b) && (decide ((openF k (sealF k (CruR.mk c.time c.a c.b c.c c.d c.e c.f c.g)).fst).fst.c = c.c) && (decide ((openF k (sealF k (CruR.mk c.time c.a c.b c.c c.d c.e c.f c.g)).fst).fst.d = c.d) && (decide ((openF k (sealF k (CruR.mk c.time c.a c.b c.c c.d c.e c.f c.g)).fst).fst.e = c.e) && (decide ((openF k (sealF k (CruR.mk c.time c.a c.b c.c c.d c.e c.f c.g)).fst).fst.f = c.f) && (decide ((openF k (sealF k (CruR.mk c.time c.a c.b c.c c.d c.e c.f c.g)).fst).fst.g = c.g) && true)))))))) = true ∧
  (true && true) = true) (false = true ∧ (true && true) = true)))) := by
  simp only [↓sw_iff, ↓Bool.and_eq_true, ↓decide_eq_true_eq, ↓decide_eq_false_iff_not, ↓Bool.not_eq_true', ↓Bool.not_eq_false', true_and, and_true, implies_true, cru_eta]
  intro k c ok
  refine ⟨⟨k, c, rfl, ok⟩, ⟨k, c, rfl, ok⟩, fun h => absurd trivial h, fun _ => ⟨fun h => absurd trivial h, fun _ h => ?_⟩⟩
  obtain ⟨hs, e⟩ := sealed h
  rw [e]
  simp only
  rw [open_seal ok hs]
  exact ⟨⟨k, _, rfl, by rw [sealB_len]; decide, sealB_okB k c⟩, fun _ => ⟨rfl, rfl, rfl, rfl, rfl, rfl, rfl, rfl⟩, fun h => absurd rfl h⟩
set_option maxRecDepth 100000 in
theorem ok10 : FnIs Try.prog 10 sealsC := by
  refine fnIs (C := (ctrs k11)) (by kernel_rfl) k11_ok Try.func10 (code := code10) (by kernel_rfl) (by kernel_rfl) ?_
  rintro a ⟨k, c, rfl, ok⟩
  exact ⟨anns [] [3, 8], kcast (vc10 k c ok) (by kernel_rfl)⟩

noncomputable def code11 : Code := match Try.f11.body with | some c => c | none => .skip
set_option maxHeartbeats 4000000 in
theorem vc11 : ∀ (k : Int) (b : List Int), b.length ≤ (1048576 : Nat) → okB b → True ∧ ((0 : Nat) + b.length) * Try.prog.types[(5 : Nat)].bytes ≤ (140737488355328 : Nat) ∧
  (∃ (k_1 : Int), ∃ (b_1 : List Int), [O.d (D.v (Value.int IntKind.u64 k)), O.d (D.ints IntKind.u8 ([] ++ b))] = [O.d (D.v (Value.int IntKind.u64 k_1)), O.d (D.ints IntKind.u8 b_1)] ∧
  b_1.length ≤ (1048576 : Nat) ∧ okB b_1) ∧ (∃ (k_1 : Int), ∃ (b_1 : List Int), [O.d (D.v (Value.int IntKind.u64 k)), O.d (D.ints IntKind.u8 b)] = [O.d (D.v (Value.int IntKind.u64 k_1)), O.d (D.ints IntKind.u8 b_1)] ∧
  b_1.length ≤ (1048576 : Nat) ∧ okB b_1) ∧ ([] : List O) = [] ∧ sw (decide ((openF k ([] ++ b)).fst.time = (openF k b).fst.time) && (decide ((openF k ([] ++ b)).fst.a = (openF k b).fst.a) && (decide ((openF k ([] ++ b)).fst.b = (openF k b).fst.b) && (decide ((openF k ([] ++ b)).fst.c = (openF k b).fst.c) && (decide ((openF k ([] ++ b)).fst.d = (openF k b).fst.d) && (decide ((openF k ([] ++ b)).fst.e = (openF k b).fst.e) && (decide ((openF k ([] ++ b)).fst.f = (openF k b).fst.f) && (decide ((openF k ([] ++ b)).fst.g = (openF k b).fst.g) && true)))))))) (True ∧
  decide ((openF k ([] ++ b)).snd = (openF k b).snd) = true ∧ (true && true) = true) (false = true ∧ (true && true) = true) := by
  simp only [↓sw_iff, ↓Bool.and_eq_true, ↓Bool.and_eq_false_iff, ↓decide_eq_true_eq, ↓decide_eq_false_iff_not, true_and, and_true, implies_true, Nat.zero_add, List.nil_append, Nat.mul_one, bytes5]
  intro k b h hb
  exact ⟨by omega, ⟨k, b, rfl, h, hb⟩, ⟨k, b, rfl, h, hb⟩, fun h => by simp at h⟩
set_option maxRecDepth 100000 in
theorem ok11 : FnIs Try.prog 11 opensC := by
  refine fnIs (C := (ctrs k12)) (by kernel_rfl) k12_ok Try.func11 (code := code11) (by kernel_rfl) (by kernel_rfl) ?_
  rintro a ⟨k, b, rfl, h, hb⟩
  exact ⟨anns [] [3], kcast (vc11 k b h hb) (by kernel_rfl)⟩

noncomputable def code12 : Code := match Try.f12.body with | some c => c | none => .skip
set_option maxHeartbeats 4000000 in
theorem vc12 : ∀ (k : Int) (c : CruR) (i t : Int), okCru c → (0 : Int) ≤ i ∧ i ≤ (255 : Int) → okU t → (∃ (k_1 : Int), ∃ (c_1 : CruR), [O.d (D.v (Value.int IntKind.u64 k)), O.agg [O.d (D.v (Value.int IntKind.i64 c.time)), O.d (D.v (Value.int IntKind.u32 c.a)), O.d (D.v (Value.int IntKind.u32 c.b)), O.d (D.v (Value.int IntKind.u32 c.c)), O.d (D.v (Value.int IntKind.u32 c.d)), O.d (D.v (Value.int IntKind.u32 c.e)), O.d (D.v (Value.int IntKind.u32 c.f)), O.d (D.v (Value.int IntKind.u32 c.g))]] = [O.d (D.v (Value.int IntKind.u64 k_1)), O.agg [O.d (D.v (Value.int IntKind.i64 c_1.time)), O.d (D.v (Value.int IntKind.u32 c_1.a)), O.d (D.v (Value.int IntKind.u32 c_1.b)), O.d (D.v (Value.int IntKind.u32 c_1.c)), O.d (D.v (Value.int IntKind.u32 c_1.d)), O.d (D.v (Value.int IntKind.u32 c_1.e)), O.d (D.v (Value.int IntKind.u32 c_1.f)), O.d (D.v (Value.int IntKind.u32 c_1.g))]] ∧
  okCru c_1) ∧ ([] : List O) = [] ∧ True ∧ sw (!decide ((sealF k (CruR.mk c.time c.a c.b c.c c.d c.e c.f c.g)).snd = (0 : Int))) (([] : List O) = [] ∧ True ∧ sw (!decide ((sealF k (CruR.mk c.time c.a c.b c.c c.d c.e c.f c.g)).snd = (0 : Int))) (true = true ∧
  (true && true) = true) (True ∧ decide ((↑(sealF k (CruR.mk c.time c.a c.b c.c c.d c.e c.f c.g)).fst.length : Int) = (40 : Int)) = true ∧ (true && true) = true)) (True ∧
  sw (decide (t = (0 : Int))) (([] : List O) = [] ∧ True ∧ sw (!decide ((sealF k (CruR.mk c.time c.a c.b c.c c.d c.e c.f c.g)).snd = (0 : Int))) (true = true ∧ (true && true) = true) (True ∧
  decide ((↑(sealF k (CruR.mk c.time c.a c.b c.c c.d c.e c.f c.g)).fst.length : Int) = (40 : Int)) = true ∧ (true && true) = true)) (True ∧ sw (!decide ((↑(sealF k (CruR.mk c.time c.a c.b c.c c.d c.e c.f c.g)).fst.length : Int) = (40 : Int))) (([] : List O) = [] ∧
  True ∧ sw (!decide ((sealF k (CruR.mk c.time c.a c.b c.c c.d c.e c.f c.g)).snd = (0 : Int))) (true = true ∧ (true && true) = true) (True ∧ decide ((↑(sealF k (CruR.mk c.time c.a c.b c.c c.d c.e c.f c.g)).fst.length : Int) = (40 : Int)) = true ∧
  (true && true) = true)) ((34 : Int) ≠ (0 : Int) ∧ True ∧ sw (decide ((IntKind.i64.wrap i).tmod (34 : Int) = (33 : Int))) (∃ (p : List Int × Nat), ∃ (g0 : Nat), g0 ≤ (4 : Nat) ∧
  (0 : Int) = (↑g0 : Int) ∧ (sealF k (CruR.mk c.time c.a c.b c.c c.d c.e c.f c.g)).fst = turnB p.fst p.snd t g0 ∧ (!false && true && true) = true ∧ ∀ (g : Nat), g ≤ (4 : Nat) →
  True ∧ sw (decide ((↑g : Int) < (4 : Int))) (True ∧ True ∧ ((0 : Int) ≤ IntKind.i64.wrap ((36 : Int) + (↑g : Int)) ∧ IntKind.i64.wrap ((36 : Int) + (↑g : Int)) < (↑(turnB p.fst p.snd t g).length : Int)) ∧
  True ∧ (0 : Int) ≤ IntKind.u64.wrap (IntKind.i64.wrap ((8 : Int) * (↑g : Int))) ∧ True ∧ ((0 : Int) ≤ IntKind.i64.wrap ((36 : Int) + (↑g : Int)) ∧ IntKind.i64.wrap ((36 : Int) + (↑g : Int)) < (↑(turnB p.fst p.snd t g).length : Int)) ∧
  IntKind.u8 = IntKind.u8 ∧ True ∧ ∃ (g' : Nat), g' ≤ (4 : Nat) ∧ (4 : Nat) - g' < (4 : Nat) - g ∧ (IntKind.i64.wrap ((↑g : Int) + (1 : Int)) = (↑g' : Int) ∧
  (turnB p.fst p.snd t g).set (IntKind.i64.wrap ((36 : Int) + (↑g : Int))).toNat (bits BinOp.xor IntKind.u8 ((turnB p.fst p.snd t g).getD (IntKind.i64.wrap ((36 : Int) + (↑g : Int))).toNat (0 : Int)) (IntKind.u8.wrap (t.fdiv ((2 : Int) ^ min (IntKind.u64.wrap (IntKind.i64.wrap ((8 : Int) * (↑g : Int)))).toNat IntKind.u32.bits)))) = turnB p.fst p.snd t g' ∧
  (!false && true && true && ((Nat.ble (2 : Nat) (2 : Nat) || (Nat.beq (1 : Nat) (2 : Nat) || false)) && true)) = true) ∧ (some (SV.c (Value.int IntKind.i64 (36 : Int))) = some (SV.c (Value.int IntKind.i64 (36 : Int))) ∧
  some (SV.b false) = some (SV.b false) ∧ some (SV.c (Value.int IntKind.u64 k)) = some (SV.c (Value.int IntKind.u64 k)) ∧ some (SV.c (Value.int IntKind.u32 t)) = some (SV.c (Value.int IntKind.u32 t)) ∧
  True) ∧ some (R.blk (33 : Nat) [SV.c (Value.int IntKind.i64 c.time), SV.c (Value.int IntKind.u32 c.a), SV.c (Value.int IntKind.u32 c.b), SV.c (Value.int IntKind.u32 c.c), SV.c (Value.int IntKind.u32 c.d), SV.c (Value.int IntKind.u32 c.e), SV.c (Value.int IntKind.u32 c.f), SV.c (Value.int IntKind.u32 c.g)]) = some (R.blk (33 : Nat) [SV.c (Value.int IntKind.i64 c.time), SV.c (Value.int IntKind.u32 c.a), SV.c (Value.int IntKind.u32 c.b), SV.c (Value.int IntKind.u32 c.c), SV.c (Value.int IntKind.u32 c.d), SV.c (Value.int IntKind.u32 c.e), SV.c (Value.int IntKind.u32 c.f), SV.c (Value.int IntKind.u32 c.g)]) ∧
  True) ((∃ (k_1 : Int), ∃ (b : List Int), [O.d (D.v (Value.int IntKind.u64 k)), O.d (D.ints IntKind.u8 (turnB p.fst p.snd t g))] = [O.d (D.v (Value.int IntKind.u64 k_1)), O.d (D.ints IntKind.u8 b)] ∧
  b.length ≤ (1048576 : Nat) ∧ okB b) ∧ True ∧ sw (decide ((openF k (turnB p.fst p.snd t g)).snd = (5 : Int))) ((decide ((openF k (turnB p.fst p.snd t g)).fst.time = (0 : Int)) && (decide ((openF k (turnB p.fst p.snd t g)).fst.a = (0 : Int)) && (decide ((openF k (turnB p.fst p.snd t g)).fst.b = (0 : Int)) && (decide ((openF k (turnB p.fst p.snd t g)).fst.c = (0 : Int)) && (decide ((openF k (turnB p.fst p.snd t g)).fst.d = (0 : Int)) && (decide ((openF k (turnB p.fst p.snd t g)).fst.e = (0 : Int)) && (decide ((openF k (turnB p.fst p.snd t g)).fst.f = (0 : Int)) && (decide ((openF k (turnB p.fst p.snd t g)).fst.g = (0 : Int)) && true)))))))) = true ∧
  (true && true) = true) (false = true ∧ (true && true) = true))) (∃ (p : List Int × Nat), ∃ (g0 : Nat), g0 ≤ (4 : Nat) ∧ (0 : Int) = (↑g0 : Int) ∧ (sealF k (CruR.mk c.time c.a c.b c.c c.d c.e c.f c.g)).fst = turnB p.fst p.snd t g0 ∧
  (!false && true && true) = true ∧ ∀ (g : Nat), g ≤ (4 : Nat) → True ∧ sw (decide ((↑g : Int) < (4 : Int))) (True ∧ True ∧ ((0 : Int) ≤ IntKind.i64.wrap ((IntKind.i64.wrap i).tmod (34 : Int) + (↑g : Int)) ∧
  IntKind.i64.wrap ((IntKind.i64.wrap i).tmod (34 : Int) + (↑g : Int)) < (↑(turnB p.fst p.snd t g).length : Int)) ∧ True ∧ (0 : Int) ≤ IntKind.u64.wrap (IntKind.i64.wrap ((8 : Int) * (↑g : Int))) ∧
  True ∧ ((0 : Int) ≤ IntKind.i64.wrap ((IntKind.i64.wrap i).tmod (34 : Int) + (↑g : Int)) ∧ IntKind.i64.wrap ((IntKind.i64.wrap i).tmod (34 : Int) + (↑g : Int)) < (↑(turnB p.fst p.snd t g).length : Int)) ∧
  IntKind.u8 = IntKind.u8 ∧ True ∧ ∃ (g' : Nat), g' ≤ (4 : Nat) ∧ (4 : Nat) - g' < (4 : Nat) - g ∧ (IntKind.i64.wrap ((↑g : Int) + (1 : Int)) = (↑g' : Int) ∧
  (turnB p.fst p.snd t g).set (IntKind.i64.wrap ((IntKind.i64.wrap i).tmod (34 : Int) + (↑g : Int))).toNat (bits BinOp.xor IntKind.u8 ((turnB p.fst p.snd t g).getD (IntKind.i64.wrap ((IntKind.i64.wrap i).tmod (34 : Int) + (↑g : Int))).toNat (0 : Int)) (IntKind.u8.wrap (t.fdiv ((2 : Int) ^ min (IntKind.u64.wrap (IntKind.i64.wrap ((8 : Int) * (↑g : Int)))).toNat IntKind.u32.bits)))) = turnB p.fst p.snd t g' ∧
  (!false && true && true && ((Nat.ble (2 : Nat) (2 : Nat) || (Nat.beq (1 : Nat) (2 : Nat) || false)) && true)) = true) ∧ (some (SV.c (Value.int IntKind.i64 ((IntKind.i64.wrap i).tmod (34 : Int)))) = some (SV.c (Value.int IntKind.i64 ((IntKind.i64.wrap i).tmod (34 : Int)))) ∧
  some (SV.b false) = some (SV.b false) ∧ some (SV.c (Value.int IntKind.u64 k)) = some (SV.c (Value.int IntKind.u64 k)) ∧ some (SV.c (Value.int IntKind.u32 t)) = some (SV.c (Value.int IntKind.u32 t)) ∧
  True) ∧ some (R.blk (33 : Nat) [SV.c (Value.int IntKind.i64 c.time), SV.c (Value.int IntKind.u32 c.a), SV.c (Value.int IntKind.u32 c.b), SV.c (Value.int IntKind.u32 c.c), SV.c (Value.int IntKind.u32 c.d), SV.c (Value.int IntKind.u32 c.e), SV.c (Value.int IntKind.u32 c.f), SV.c (Value.int IntKind.u32 c.g)]) = some (R.blk (33 : Nat) [SV.c (Value.int IntKind.i64 c.time), SV.c (Value.int IntKind.u32 c.a), SV.c (Value.int IntKind.u32 c.b), SV.c (Value.int IntKind.u32 c.c), SV.c (Value.int IntKind.u32 c.d), SV.c (Value.int IntKind.u32 c.e), SV.c (Value.int IntKind.u32 c.f), SV.c (Value.int IntKind.u32 c.g)]) ∧
  True) ((∃ (k_1 : Int), ∃ (b : List Int), [O.d (D.v (Value.int IntKind.u64 k)), O.d (D.ints IntKind.u8 (turnB p.fst p.snd t g))] = [O.d (D.v (Value.int IntKind.u64 k_1)), O.d (D.ints IntKind.u8 b)] ∧
  b.length ≤ (1048576 : Nat) ∧ okB b) ∧ True ∧ sw (decide ((openF k (turnB p.fst p.snd t g)).snd = (5 : Int))) ((decide ((openF k (turnB p.fst p.snd t g)).fst.time = (0 : Int)) && (decide ((openF k (turnB p.fst p.snd t g)).fst.a = (0 : Int)) && (decide ((openF k (turnB p.fst p.snd t g)).fst.b = (0 : Int)) && (decide ((openF k (turnB p.fst p.snd t g)).fst.c = (0 : Int)) && (decide ((openF k (turnB p.fst p.snd t g)).fst.d = (0 : Int)) && (decide ((openF k (turnB p.fst p.snd t g)).fst.e = (0 : Int)) && (decide ((openF k (turnB p.fst p.snd t g)).fst.f = (0 : Int)) && (decide ((openF k (turnB p.fst p.snd t g)).fst.g = (0 : Int)) && true)))))))) = true ∧
  (true && true) = true) (false = true ∧ (true && true) = true)))))) := by
  simp only [↓sw_iff, ↓Bool.and_eq_true, ↓decide_eq_true_eq, ↓decide_eq_false_iff_not, ↓Bool.not_eq_true', ↓Bool.not_eq_false', true_and, and_true, implies_true, Bool.or_false, Nat.ble, Nat.beq, cru_eta]
  intro k c i t ok hi ht
  refine ⟨⟨k, c, rfl, ok⟩, fun _ h => sealF_len h, fun h => ⟨fun _ h => sealF_len h, fun h0 => ⟨fun _ h => sealF_len h, fun _ => ⟨by decide, ?_⟩⟩⟩⟩
  obtain ⟨hs, e⟩ := sealed h
  rw [e]
  simp only
  have wi : (IntKind.i64.wrap i).tmod 34 = (((i % 34).toNat : Nat) : Int) := by
    rw [wrap_i64_id (by omega) (by omega), Int.tmod_eq_emod_of_nonneg hi.1]; omega
  rw [wi]
  constructor
  · intro _
    obtain ⟨p, g0, h1, h2, h3, hw⟩ := turn_walk (k := k) (c := c) (t := t) 36 (.inr rfl) ht h0
    refine ⟨p, g0, h1, h2, h3, fun g hg => ⟨(hw g hg).1, fun hl => ⟨((hw g hg).2 hl).1, ?_⟩⟩⟩
    rw [((hw g hg).2 hl).2]
    exact ⟨fun _ => ⟨rfl, rfl, rfl, rfl, rfl, rfl, rfl, rfl⟩, fun h => absurd rfl h⟩
  · intro hne
    obtain ⟨p, g0, h1, h2, h3, hw⟩ := turn_walk (k := k) (c := c) (t := t) (i % 34).toNat (by omega) ht h0
    refine ⟨p, g0, h1, h2, h3, fun g hg => ⟨(hw g hg).1, fun hl => ⟨((hw g hg).2 hl).1, ?_⟩⟩⟩
    rw [((hw g hg).2 hl).2]
    exact ⟨fun _ => ⟨rfl, rfl, rfl, rfl, rfl, rfl, rfl, rfl⟩, fun h => absurd rfl h⟩
set_option maxRecDepth 100000 in
theorem ok12 : FnIs Try.prog 12 turnsC := by
  refine fnIs (C := (ctrs k13)) (by kernel_rfl) k13_ok Try.func12 (code := code12) (by kernel_rfl) (by kernel_rfl) ?_
  rintro a ⟨k, c, i, t, rfl, ok, hi, ht⟩
  exact ⟨anns [(8, turnAnn 12 9 t)] [2, 3, 12] (dr := [(8, [1, 2, 5, 10, 15, 16, 17, 18, 19, 20, 21, 22, 23, 24, 25, 26, 27, 28, 29, 30, 31, 32, 33, 34, 35, 36, 37, 38, 39, 40, 41, 42, 43, 44, 45, 46, 47, 48, 49, 50])]), kcast (vc12 k c i t ok hi ht) (by kernel_rfl)⟩

end Go.ZR
