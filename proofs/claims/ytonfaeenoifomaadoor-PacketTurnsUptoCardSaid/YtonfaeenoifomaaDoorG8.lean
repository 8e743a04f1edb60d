/- Part 8 of what the closing text rests on. -/
import Derived.Test.YtonfaeenoifomaaDoorG7
import Derived.Test.YtonfaeenoifomaaDoorRows
/- Bytes and numbers: contracts. -/
namespace Go.ZR
open Go.Z
def vi : D → Int
  | .v (.int _ n) => n
  | _ => 0
def vb : D → Bool
  | .v (.bool b) => b
  | _ => false
def vl : D → List Int
  | .ints _ l => l
  | _ => []
end Go.ZR
namespace Go.ZM
open Go.Z Go.ZR
def sm (n : Nat) : Prop := n ≤ 1099511627776
def okI (n : Int) : Prop := -2199023255552 ≤ n ∧ n ≤ 2199023255552
/-- Some bytes; or why there are none. -/
def partF (b : List Int) (i n : Int) : List Int × Int :=
  if i < 0 ∨ n < 0 then ([], 1) else if (b.length : Int) < i ∨ (b.length : Int) - i < n then ([], 3) else ((b.drop i.toNat).take n.toNat, 0)
def getF (b : List Int) (i : Int) (k : Nat) : Int × Int := (valF (partF b i k).1, (partF b i k).2)
theorem part_ok {b : List Int} (h : okB b) (i n : Int) : okB (partF b i n).1 := by
  unfold partF
  split
  · exact fun x hx => by cases hx
  split
  · exact fun x hx => by cases hx
  · exact okB_take (okB_drop h _) _
theorem part_len {b : List Int} {i : Int} {k : Nat} : (partF b i k).1.length ≤ k := by
  unfold partF
  split
  · exact Nat.zero_le _
  split
  · exact Nat.zero_le _
  · rw [Int.toNat_natCast]; exact List.length_take_le _ _
end Go.ZM
namespace Go.ZR
open Go.Z Go.ZM
def iO (k : IntKind) (n : Int) : O := .d (.v (.int k n))
def bO (b : Bool) : O := .d (.v (.bool b))
def sO (s : ByteArray) : O := .d (.v (.string s))
def bsO (l : List Int) : O := .d (.ints .u8 l)
def bsN (l : List Int) : O := .own 5 (.ints .u8 l)
def dO : O → D
  | .d x => x
  | _ => .v (.bool false)
def at_ (a : List O) (i : Nat) : O := a.getD i .any
/-- A contract: what is read is lent; results that are new. -/
def nC (n : Nat) (quiet : Bool) (pre : List O → Prop) (res : List O → List O) : Ctr where
  own := []
  pre := pre
  res := res
  upd := fun _ => List.replicate n .any
  ro := false
  quiet := quiet
def cloneC : Ctr := nC 1 false (fun a => ∃ l, a = [bsO l] ∧ sm l.length) fun a => [bsN (vl (dO (at_ a 0)))]
def padC : Ctr := nC 1 true (fun a => ∃ n : Nat, a = [iO .i64 n] ∧ n ≤ 2199023255552) fun a => [iO .i64 (padN (vi (dO (at_ a 0))).toNat : Nat)]
def paddedC : Ctr := nC 1 false (fun a => ∃ l, a = [bsO l] ∧ sm l.length) fun a => [bsN (padF (vl (dO (at_ a 0))))]
def putC : Ctr := nC 3 false (fun a => ∃ (b : List Int) (n : Int) (k : Nat), a = [bsO b, iO .u64 n, iO .i64 k] ∧ sm b.length ∧ 1 ≤ k ∧ k ≤ 8) fun a =>
  [bsN (vl (dO (at_ a 0)) ++ be (vi (dO (at_ a 1))) (vi (dO (at_ a 2))).toNat)]
def partA (a : List O) : List Int × Int := partF (vl (dO (at_ a 0))) (vi (dO (at_ a 1))) (vi (dO (at_ a 2)))
def partC : Ctr := nC 3 false (fun a => ∃ (b : List Int) (i n : Int), a = [bsO b, iO .i64 i, iO .i64 n] ∧ sm b.length ∧ okI i ∧ okI n) fun a => [bsN (partA a).1, iO .i64 (partA a).2]
def getA (a : List O) : Int × Int := getF (vl (dO (at_ a 0))) (vi (dO (at_ a 1))) (vi (dO (at_ a 2))).toNat
def getC (m : Nat) : Ctr := nC 3 false (fun a => ∃ (b : List Int) (i : Int) (k : Nat), a = [bsO b, iO .i64 i, iO .i64 k] ∧ sm b.length ∧ okB b ∧ okI i ∧ 1 ≤ k ∧ k ≤ m) fun a => [iO .u64 (getA a).1, iO .i64 (getA a).2]
def numC : Ctr := nC 3 false (fun a => ∃ (b : List Int) (i : Int) (k : Nat), a = [bsO b, iO .i64 i, iO .i64 k] ∧ sm b.length ∧ okB b ∧ okI i ∧ 1 ≤ k ∧ k ≤ 7) fun a => [iO .i64 (getA a).1]

def putAnn (b : List Int) (n : Int) (k : Nat) : LoopAnn where
  γ := Nat
  pre := fun j => j ≤ k
  μ := fun j => k - j
  items := fun j => [(19, .c (iO .i64 (j : Int))), (7, .c (bsN (b ++ (be n k).take j)))]
def putAnn' (b : List Int) (n : Int) (k : Nat) : LoopAnn where
  γ := Nat
  pre := fun j => j ≤ k
  μ := fun j => k - j
  items := fun j => [(8, .c (iO .i64 ((k : Int) - 1 - (j : Int)))), (7, .c (bsN (b ++ (be n k).take j)))]
def zAnn (b : List Int) : LoopAnn where
  γ := Nat
  pre := fun j => j ≤ padN b.length
  μ := fun j => padN b.length - j
  items := fun j => [(3, .c (bsN (b ++ List.replicate j 0)))]
def valAnn (s t : Nat) (p : List Int) : LoopAnn where
  γ := Nat
  pre := fun j => j ≤ p.length
  μ := fun j => p.length - j
  items := fun j => [(s, .c (iO .i64 (j : Int))), (t, .c (iO .u64 (valF (p.take j))))]
def c0 : List (Nat × Ctr) := []
def c1 : List (Nat × Ctr) := [(30, cloneC), (43, padC)]
def c2 : List (Nat × Ctr) := [(36, partC), (49, partC)]
def c3 : List (Nat × Ctr) := [(39, getC 8)]
theorem c0_ok {P : Program} : COk P (ctrs c0) := cok_nil
end Go.ZR

/- Bytes and numbers: walked. -/
namespace Go.ZR
open Go.Proofs
open Go.Z Go.ZM Go.RowKit
set_option maxRecDepth 100000
theorem bytes5 : Tryd.prog.types[(5 : Nat)].bytes = 1 := by kernel_rfl
theorem part_get {b : List Int} {i n : Int} (h0 : 0 ≤ i) (h1 : 0 ≤ n) (h2 : i ≤ b.length) (h3 : n ≤ b.length - i) : partF b i n = ((b.drop i.toNat).take n.toNat, 0) := by
  unfold partF; rw [if_neg (by omega), if_neg (by omega)]
theorem part_err (b : List Int) (i n : Int) : (partF b i n).2 ≠ 0 → (partF b i n).1 = [] := by
  unfold partF
  split
  · intro _; rfl
  split
  · intro _; rfl
  · intro h; exact absurd rfl h
theorem be_step {b : List Int} {n : Int} {g k : Nat} (hg : g < k) : b ++ (be n k).take g ++ [(n / 256 ^ (k - 1 - g)) % 256] = b ++ (be n k).take (g + 1) := by
  rw [take_succ_getD (by rw [be_len]; exact hg), be_get n hg, List.append_assoc]
theorem val_small {l : List Int} (h : okB l) (hl : l.length ≤ 7) : 0 ≤ valF l ∧ valF l < 256 ^ 7 := by
  have h1 := val_lt h
  have h2 : (256 : Int) ^ l.length ≤ 256 ^ 7 := by
    have : ∀ k : Nat, k ≤ 7 → (256 : Int) ^ k ≤ 256 ^ 7 := by decide
    exact this _ hl
  exact ⟨val_nonneg h, by omega⟩
noncomputable def code30 : Code := match Tryd.f30.body with | some c => c | none => .skip
set_option maxHeartbeats 4000000 in
theorem vc30 : ∀ (l : List Int), sm l.length → ∀ (t : Bool), (t = true → l.length = (0 : Nat)) → sw t (l = [] ∧ (true && true) = true) (True ∧ ((0 : Nat) + l.length) * Tryd.prog.types[(5 : Nat)].bytes ≤ (140737488355328 : Nat) ∧
  [] ++ l = l ∧ (!false && true && true) = true) := by
  simp only [↓sw_iff, ↓Bool.and_eq_true, ↓Bool.not_eq_true', true_and, and_true, Nat.zero_add, List.nil_append, Nat.mul_one, bytes5]
  intro l h t ht
  unfold sm at h
  exact ⟨fun e => by have := ht e; exact List.length_eq_zero_iff.1 this, fun _ => by omega⟩
set_option maxRecDepth 100000 in
theorem ok30 : FnIs Tryd.prog 30 cloneC := by
  refine fnIs (C := (ctrs c0)) (by kernel_rfl) c0_ok Tryd.func30 (code := code30) (by kernel_rfl) (by kernel_rfl) ?_
  rintro a ⟨l, rfl, h⟩
  exact ⟨anns [], kcast (vc30 l h) (by kernel_rfl)⟩

noncomputable def code43 : Code := match Tryd.f43.body with | some c => c | none => .skip
set_option maxHeartbeats 4000000 in
theorem vc43 : ∀ (n : Nat), n ≤ (2199023255552 : Nat) → True ∧ True ∧ bits BinOp.and IntKind.i64 (IntKind.i64.wrap ((0 : Int) - (↑n : Int))) (3 : Int) = (↑(padN (↑n : Int).toNat) : Int) ∧
  (true && true) = true := by
  simp only [↓Bool.and_eq_true, true_and, and_true, Int.toNat_natCast]
  intro n h
  exact and_three
set_option maxRecDepth 100000 in
theorem ok43 : FnIs Tryd.prog 43 padC := by
  refine fnIs (C := (ctrs c0)) (by kernel_rfl) c0_ok Tryd.func43 (code := code43) (by kernel_rfl) (by kernel_rfl) ?_
  rintro a ⟨n, rfl, h⟩
  exact ⟨anns [], kcast (vc43 n h) (by kernel_rfl)⟩

theorem c1_ok : COk Tryd.prog (ctrs c1) := cok_cons ok30 (cok_cons ok43 cok_nil)

noncomputable def code38 : Code := match Tryd.f38.body with | some c => c | none => .skip
set_option maxHeartbeats 4000000 in
theorem vc38 : ∀ (n : Nat), n ≤ (2199023255552 : Nat) → True ∧ (4 : Int) ≠ (0 : Int) ∧ True ∧ sw (decide ((↑n : Int).tmod (4 : Int) = (0 : Int))) ((0 : Int) = (↑(padN (↑n : Int).toNat) : Int) ∧
  (true && true) = true) ((4 : Int) ≠ (0 : Int) ∧ True ∧ IntKind.i64.wrap ((4 : Int) - (↑n : Int).tmod (4 : Int)) = (↑(padN (↑n : Int).toNat) : Int) ∧ (true && true) = true) := by
  simp only [↓sw_iff, ↓Bool.and_eq_true, ↓decide_eq_true_eq, ↓decide_eq_false_iff_not, true_and, and_true, Int.toNat_natCast]
  intro n h
  have e : (n : Int).tmod 4 = ((n % 4 : Nat) : Int) := rfl
  rw [e]
  refine ⟨by decide, fun h => ?_, fun h => ⟨by decide, ?_⟩⟩
  · have := h
    unfold padN; omega
  · have := h
    rw [wrap_i64_id (by omega) (by omega)]
    unfold padN; omega
set_option maxRecDepth 100000 in
theorem ok38 : FnIs Tryd.prog 38 padC := by
  refine fnIs (C := (ctrs c0)) (by kernel_rfl) c0_ok Tryd.func38 (code := code38) (by kernel_rfl) (by kernel_rfl) ?_
  rintro a ⟨n, rfl, h⟩
  exact ⟨anns [] [1], kcast (vc38 n h) (by kernel_rfl)⟩

noncomputable def code29 : Code := match Tryd.f29.body with | some c => c | none => .skip
set_option maxHeartbeats 4000000 in
theorem vc29 : ∀ (l : List Int), sm l.length → (∃ (l_1 : List Int), [O.d (D.ints IntKind.u8 l)] = [O.d (D.ints IntKind.u8 l_1)] ∧ sm l_1.length) ∧ (∃ (n : Nat), [O.d (D.v (Value.int IntKind.i64 (↑l.length : Int)))] = [O.d (D.v (Value.int IntKind.i64 (↑n : Int)))] ∧
  n ≤ (2199023255552 : Nat)) ∧ ((0 : Int) ≤ (↑(padN (↑l.length : Int).toNat) : Int) ∧ (↑(padN (↑l.length : Int).toNat) : Int) ≤ (9223372036854775807 : Int) ∧
  (↑(padN (↑l.length : Int).toNat) : Int).toNat * Tryd.prog.types[(5 : Nat)].bytes ≤ (281474976710656 : Nat) ∧ IntKind.u8 = IntKind.u8) ∧ (l.length + (List.replicate (↑(padN (↑l.length : Int).toNat) : Int).toNat (0 : Int)).length) * Tryd.prog.types[(5 : Nat)].bytes ≤ (140737488355328 : Nat) ∧
  l ++ List.replicate (↑(padN (↑l.length : Int).toNat) : Int).toNat (0 : Int) = padF l ∧ (!false && true && true) = true := by
  simp only [↓Bool.and_eq_true, ↓Bool.not_eq_true', and_true, Int.toNat_natCast, Nat.mul_one, bytes5, List.length_replicate]
  intro l h
  have hp := padN_le l.length
  refine ⟨⟨l, rfl, h⟩, ⟨l.length, rfl, ?_⟩, ⟨by omega, by omega, by omega⟩, ?_, rfl⟩ <;> unfold sm at h <;> omega
set_option maxRecDepth 100000 in
theorem ok29 : FnIs Tryd.prog 29 paddedC := by
  refine fnIs (C := (ctrs c1)) (by kernel_rfl) c1_ok Tryd.func29 (code := code29) (by kernel_rfl) (by kernel_rfl) ?_
  rintro a ⟨l, rfl, h⟩
  exact ⟨anns [], kcast (vc29 l h) (by kernel_rfl)⟩

noncomputable def code16 : Code := match Tryd.f16.body with | some c => c | none => .skip
set_option maxHeartbeats 4000000 in
theorem vc16 : ∀ (b : List Int) (n : Int) (k : Nat), sm b.length → (1 : Nat) ≤ k → k ≤ (8 : Nat) → (∃ (l : List Int), [O.d (D.ints IntKind.u8 b)] = [O.d (D.ints IntKind.u8 l)] ∧
  sm l.length) ∧ True ∧ sw (decide ((↑k : Int) < (1 : Int))) (b = b ++ be n (↑k : Int).toNat ∧ (!false && true && true) = true) (True ∧ sw (decide ((8 : Int) < (↑k : Int))) (b = b ++ be n (↑k : Int).toNat ∧
  (!false && true && true) = true) (∃ (g0 : Nat), g0 ≤ k ∧ (0 : Int) = (↑g0 : Int) ∧ b = b ++ List.take g0 (be n k) ∧ (!false && true && true) = true ∧ ∀ (g : Nat), g ≤ k →
  True ∧ sw (decide ((↑g : Int) < (↑k : Int))) (True ∧ True ∧ True ∧ (0 : Int) ≤ IntKind.i64.wrap ((8 : Int) * IntKind.i64.wrap (IntKind.i64.wrap ((↑k : Int) - (1 : Int)) - (↑g : Int))) ∧
  True ∧ ((b ++ List.take g (be n k)).length + (1 : Nat)) * Tryd.prog.types[(5 : Nat)].bytes ≤ (140737488355328 : Nat) ∧ True ∧ ∃ (g' : Nat), g' ≤ k ∧ k - g' < k - g ∧
  (IntKind.i64.wrap ((↑g : Int) + (1 : Int)) = (↑g' : Int) ∧ b ++ List.take g (be n k) ++ [IntKind.u8.wrap (n.fdiv ((2 : Int) ^ min (IntKind.i64.wrap ((8 : Int) * IntKind.i64.wrap (IntKind.i64.wrap ((↑k : Int) - (1 : Int)) - (↑g : Int)))).toNat IntKind.u64.bits))] = b ++ List.take g' (be n k) ∧
  (!false && true && true && ((Nat.ble (2 : Nat) (4 : Nat) || (Nat.beq (1 : Nat) (4 : Nat) || false)) && true)) = true) ∧ (some (SV.c (Value.int IntKind.i64 (↑k : Int))) = some (SV.c (Value.int IntKind.i64 (↑k : Int))) ∧
  some (SV.c (Value.bool (decide ((8 : Int) < (↑k : Int))))) = some (SV.c (Value.bool (decide ((8 : Int) < (↑k : Int))))) ∧ some (SV.c (Value.bool (decide ((8 : Int) < (↑k : Int))))) = some (SV.c (Value.bool (decide ((8 : Int) < (↑k : Int))))) ∧
  some (SV.c (Value.int IntKind.i64 (↑k : Int))) = some (SV.c (Value.int IntKind.i64 (↑k : Int))) ∧ some (SV.b false) = some (SV.b false) ∧ some (SV.c (Value.bool (decide ((↑k : Int) < (1 : Int))))) = some (SV.c (Value.bool (decide ((↑k : Int) < (1 : Int))))) ∧
  some (SV.c (Value.int IntKind.i64 (↑k : Int))) = some (SV.c (Value.int IntKind.i64 (↑k : Int))) ∧ some (SV.a (1 : Nat)) = some (SV.a (1 : Nat)) ∧ some (SV.a (0 : Nat)) = some (SV.a (0 : Nat)) ∧
  some SV.nil = some SV.nil ∧ some (SV.a (0 : Nat)) = some (SV.a (0 : Nat)) ∧ some (SV.c (Value.int IntKind.u64 n)) = some (SV.c (Value.int IntKind.u64 n)) ∧
  some (SV.c (Value.int IntKind.i64 (↑k : Int))) = some (SV.c (Value.int IntKind.i64 (↑k : Int))) ∧ True) ∧ some (R.ro (D.ints IntKind.u8 b)) = some (R.ro (D.ints IntKind.u8 b)) ∧
  True) (b ++ List.take g (be n k) = b ++ be n (↑k : Int).toNat ∧ (!false && true && true) = true))) := by
  simp only [↓sw_iff, ↓Bool.and_eq_true, ↓decide_eq_true_eq, ↓decide_eq_false_iff_not, ↓Bool.not_eq_true', true_and, and_true, Bool.or_false, Nat.ble, Nat.beq, Int.toNat_natCast, List.length_append, Nat.mul_one, bytes5]
  intro b n k h h1 h2
  refine ⟨⟨b, rfl, h⟩, fun e => absurd e (by omega), fun _ => ⟨fun e => absurd e (by omega), fun _ => ⟨0, Nat.zero_le _, rfl, by simp, ?_⟩⟩⟩
  unfold sm at h
  intro g hg
  refine ⟨fun ht => ?_, fun ht => ?_⟩
  · have hlt : g < k := by have := ht; omega
    have e : IntKind.i64.wrap (8 * IntKind.i64.wrap (IntKind.i64.wrap ((k : Int) - 1) - (g : Int))) = ((8 * (k - 1 - g) : Nat) : Int) := by
      rw [wrap_i64_id (n := (k : Int) - 1) (by omega) (by omega), wrap_i64_id (n := (k : Int) - 1 - g) (by omega) (by omega), wrap_i64_id (by omega) (by omega)]; omega
    have hl : ((be n k).take g).length ≤ g := List.length_take_le _ _
    rw [e]
    refine ⟨by omega, by omega, g + 1, hlt, by omega, by rw [wrap_i64_id (by omega) (by omega)]; rfl, ?_⟩
    rw [shr_byte _ (by omega), be_step hlt]
  · have : k ≤ g := by have := ht; omega
    rw [List.take_of_length_le (by rw [be_len]; exact this)]
set_option maxRecDepth 100000 in
theorem ok16 : FnIs Tryd.prog 16 putC := by
  refine fnIs (C := (ctrs c1)) (by kernel_rfl) c1_ok Tryd.func16 (code := code16) (by kernel_rfl) (by kernel_rfl) ?_
  rintro a ⟨b, n, k, rfl, h, h1, h2⟩
  exact ⟨anns [(5, putAnn b n k)] [2], kcast (vc16 b n k h h1 h2) (by kernel_rfl)⟩

noncomputable def code36 : Code := match Tryd.f36.body with | some c => c | none => .skip
set_option maxHeartbeats 4000000 in
theorem vc36 : ∀ (b : List Int) (i n : Int), sm b.length → okI i → okI n → True ∧ sw (decide (i < (0 : Int))) ((partF b i n).fst = [] ∧ (1 : Int) = (partF b i n).snd ∧
  (true && true) = true) (True ∧ sw (decide (n < (0 : Int))) ((partF b i n).fst = [] ∧ (1 : Int) = (partF b i n).snd ∧ (true && true) = true) (True ∧ sw (decide ((↑b.length : Int) < i)) ((partF b i n).fst = [] ∧
  (3 : Int) = (partF b i n).snd ∧ (true && true) = true) (True ∧ True ∧ sw (decide (IntKind.i64.wrap ((↑b.length : Int) - i) < n)) ((partF b i n).fst = [] ∧
  (3 : Int) = (partF b i n).snd ∧ (true && true) = true) (True ∧ ((0 : Int) ≤ i ∧ i ≤ IntKind.i64.wrap (i + n) ∧ IntKind.i64.wrap (i + n) ≤ (↑b.length : Int)) ∧
  (∃ (l : List Int), [O.d (D.ints IntKind.u8 (List.take ((IntKind.i64.wrap (i + n)).toNat - i.toNat) (List.drop i.toNat b)))] = [O.d (D.ints IntKind.u8 l)] ∧
  sm l.length) ∧ List.take ((IntKind.i64.wrap (i + n)).toNat - i.toNat) (List.drop i.toNat b) = (partF b i n).fst ∧ (0 : Int) = (partF b i n).snd ∧ (!false && true && true) = true)))) := by
  simp only [↓sw_iff, ↓Bool.and_eq_true, ↓decide_eq_true_eq, ↓decide_eq_false_iff_not, ↓Bool.not_eq_true', true_and, and_true]
  intro b i n h h1 h2
  unfold sm at h
  unfold okI at h1 h2
  have e0 : IntKind.i64.wrap ((b.length : Int) - i) = b.length - i := wrap_i64_id (by omega) (by omega)
  have e1 : IntKind.i64.wrap (i + n) = i + n := wrap_i64_id (by omega) (by omega)
  rw [e0, e1]
  have key : partF b i n = if i < 0 ∨ n < 0 then ([], 1) else if (b.length : Int) < i ∨ (b.length : Int) - i < n then ([], 3) else ((b.drop i.toNat).take n.toNat, 0) := rfl
  refine ⟨fun t => ?_, fun t => ⟨fun t1 => ?_, fun t1 => ⟨fun t2 => ?_, fun t2 => ⟨fun t3 => ?_, fun t3 => ?_⟩⟩⟩⟩
  · rw [key, if_pos (.inl t)]; exact ⟨rfl, rfl⟩
  · rw [key, if_pos (.inr t1)]; exact ⟨rfl, rfl⟩
  · rw [key, if_neg (by have := t; have := t1; omega), if_pos (.inl t2)]; exact ⟨rfl, rfl⟩
  · rw [key, if_neg (by have := t; have := t1; omega), if_pos (.inr t3)]; exact ⟨rfl, rfl⟩
  · have a1 := t; have a2 := t1; have a3 := t2; have a4 := t3
    rw [part_get (by omega) (by omega) (by omega) (by omega), show (i + n).toNat - i.toNat = n.toNat by omega]
    have hl : ((b.drop i.toNat).take n.toNat).length ≤ b.length := by rw [List.length_take, List.length_drop]; omega
    exact ⟨by omega, ⟨_, rfl, by unfold sm; omega⟩, rfl, rfl⟩
set_option maxRecDepth 100000 in
theorem ok36 : FnIs Tryd.prog 36 partC := by
  refine fnIs (C := (ctrs c1)) (by kernel_rfl) c1_ok Tryd.func36 (code := code36) (by kernel_rfl) (by kernel_rfl) ?_
  rintro a ⟨b, i, n, rfl, h, h1, h2⟩
  exact ⟨anns [] [1, 3], kcast (vc36 b i n h h1 h2) (by kernel_rfl)⟩

noncomputable def code49 : Code := match Tryd.f49.body with | some c => c | none => .skip
set_option maxHeartbeats 4000000 in
theorem vc49 : ∀ (b : List Int) (i n : Int), sm b.length → okI i → okI n → True ∧ sw (decide (i < (0 : Int))) ((partF b i n).fst = [] ∧ (1 : Int) = (partF b i n).snd ∧
  (true && true) = true) (True ∧ sw (decide (n < (0 : Int))) ((partF b i n).fst = [] ∧ (1 : Int) = (partF b i n).snd ∧ (true && true) = true) (True ∧ sw (decide ((↑b.length : Int) < i)) ((partF b i n).fst = [] ∧
  (3 : Int) = (partF b i n).snd ∧ (true && true) = true) (True ∧ True ∧ sw (decide (IntKind.i64.wrap ((↑b.length : Int) - i) < n)) ((partF b i n).fst = [] ∧
  (3 : Int) = (partF b i n).snd ∧ (true && true) = true) (True ∧ ((0 : Int) ≤ i ∧ i ≤ IntKind.i64.wrap (i + n) ∧ IntKind.i64.wrap (i + n) ≤ (↑b.length : Int)) ∧
  True ∧ ((0 : Nat) + (List.take ((IntKind.i64.wrap (i + n)).toNat - i.toNat) (List.drop i.toNat b)).length) * Tryd.prog.types[(5 : Nat)].bytes ≤ (140737488355328 : Nat) ∧
  [] ++ List.take ((IntKind.i64.wrap (i + n)).toNat - i.toNat) (List.drop i.toNat b) = (partF b i n).fst ∧ (0 : Int) = (partF b i n).snd ∧ (!false && true && true) = true)))) := by
  simp only [↓sw_iff, ↓Bool.and_eq_true, ↓decide_eq_true_eq, ↓decide_eq_false_iff_not, ↓Bool.not_eq_true', true_and, and_true, Nat.zero_add, List.nil_append, Nat.mul_one, bytes5]
  intro b i n h h1 h2
  unfold sm at h
  unfold okI at h1 h2
  have e0 : IntKind.i64.wrap ((b.length : Int) - i) = b.length - i := wrap_i64_id (by omega) (by omega)
  have e1 : IntKind.i64.wrap (i + n) = i + n := wrap_i64_id (by omega) (by omega)
  rw [e0, e1]
  have key : partF b i n = if i < 0 ∨ n < 0 then ([], 1) else if (b.length : Int) < i ∨ (b.length : Int) - i < n then ([], 3) else ((b.drop i.toNat).take n.toNat, 0) := rfl
  refine ⟨fun t => ?_, fun t => ⟨fun t1 => ?_, fun t1 => ⟨fun t2 => ?_, fun t2 => ⟨fun t3 => ?_, fun t3 => ?_⟩⟩⟩⟩
  · rw [key, if_pos (.inl t)]; exact ⟨rfl, rfl⟩
  · rw [key, if_pos (.inr t1)]; exact ⟨rfl, rfl⟩
  · rw [key, if_neg (by have := t; have := t1; omega), if_pos (.inl t2)]; exact ⟨rfl, rfl⟩
  · rw [key, if_neg (by have := t; have := t1; omega), if_pos (.inr t3)]; exact ⟨rfl, rfl⟩
  · have a1 := t; have a2 := t1; have a3 := t2; have a4 := t3
    rw [part_get (by omega) (by omega) (by omega) (by omega), show (i + n).toNat - i.toNat = n.toNat by omega]
    have hl : ((b.drop i.toNat).take n.toNat).length ≤ b.length := by rw [List.length_take, List.length_drop]; omega
    exact ⟨by omega, by omega, rfl, rfl⟩
set_option maxRecDepth 100000 in
theorem ok49 : FnIs Tryd.prog 49 partC := by
  refine fnIs (C := (ctrs c0)) (by kernel_rfl) c0_ok Tryd.func49 (code := code49) (by kernel_rfl) (by kernel_rfl) ?_
  rintro a ⟨b, i, n, rfl, h, h1, h2⟩
  exact ⟨anns [] [1, 3], kcast (vc49 b i n h h1 h2) (by kernel_rfl)⟩

theorem c2_ok : COk Tryd.prog (ctrs c2) := cok_cons ok36 (cok_cons ok49 cok_nil)

noncomputable def code20 : Code := match Tryd.f20.body with | some c => c | none => .skip
set_option maxHeartbeats 4000000 in
theorem vc20 : ∀ (b : List Int) (i : Int) (k : Nat), sm b.length → okB b → okI i → (1 : Nat) ≤ k → k ≤ (8 : Nat) → True ∧ sw (decide ((↑k : Int) < (1 : Int))) ((0 : Int) = valF (partF b i (↑(↑k : Int).toNat : Int)).fst ∧
  (1 : Int) = (partF b i (↑(↑k : Int).toNat : Int)).snd ∧ (true && true) = true) (True ∧ sw (decide ((8 : Int) < (↑k : Int))) ((0 : Int) = valF (partF b i (↑(↑k : Int).toNat : Int)).fst ∧
  (1 : Int) = (partF b i (↑(↑k : Int).toNat : Int)).snd ∧ (true && true) = true) ((∃ (b_1 : List Int), ∃ (i_1 : Int), ∃ (n : Int), [O.d (D.ints IntKind.u8 b), O.d (D.v (Value.int IntKind.i64 i)), O.d (D.v (Value.int IntKind.i64 (↑k : Int)))] = [O.d (D.ints IntKind.u8 b_1), O.d (D.v (Value.int IntKind.i64 i_1)), O.d (D.v (Value.int IntKind.i64 n))] ∧
  sm b_1.length ∧ okI i_1 ∧ okI n) ∧ ∃ (g0 : Nat), g0 ≤ (partF b i (↑k : Int)).fst.length ∧ (0 : Int) = (↑g0 : Int) ∧ (0 : Int) = valF (List.take g0 (partF b i (↑k : Int)).fst) ∧
  (true && true) = true ∧ ∀ (g : Nat), g ≤ (partF b i (↑k : Int)).fst.length → True ∧ sw (decide ((↑g : Int) < (↑(partF b i (↑k : Int)).fst.length : Int))) (((0 : Int) ≤ (↑g : Int) ∧
  (↑g : Int) < (↑(partF b i (↑k : Int)).fst.length : Int)) ∧ (0 : Int) ≤ (8 : Int) ∧ True ∧ True ∧ ∃ (g' : Nat), g' ≤ (partF b i (↑k : Int)).fst.length ∧
  (partF b i (↑k : Int)).fst.length - g' < (partF b i (↑k : Int)).fst.length - g ∧ (IntKind.i64.wrap ((↑g : Int) + (1 : Int)) = (↑g' : Int) ∧ bits BinOp.or IntKind.u64 (IntKind.u64.wrap (valF (List.take g (partF b i (↑k : Int)).fst) * (2 : Int) ^ min (Int.toNat (8 : Int)) IntKind.u64.bits)) (IntKind.u64.wrap ((partF b i (↑k : Int)).fst.getD (↑g : Int).toNat (0 : Int))) = valF (List.take g' (partF b i (↑k : Int)).fst) ∧
  (true && true && true) = true) ∧ (some (SV.c (Value.int IntKind.i64 (↑(partF b i (↑k : Int)).fst.length : Int))) = some (SV.c (Value.int IntKind.i64 (↑(partF b i (↑k : Int)).fst.length : Int))) ∧
  some (SV.a (1 : Nat)) = some (SV.a (1 : Nat)) ∧ some (SV.c (Value.int IntKind.i64 (partF b i (↑k : Int)).snd)) = some (SV.c (Value.int IntKind.i64 (partF b i (↑k : Int)).snd)) ∧
  some (SV.a (1 : Nat)) = some (SV.a (1 : Nat)) ∧ some (SV.c (Value.int IntKind.i64 (partF b i (↑k : Int)).snd)) = some (SV.c (Value.int IntKind.i64 (partF b i (↑k : Int)).snd)) ∧
  some (SV.a (1 : Nat)) = some (SV.a (1 : Nat)) ∧ some (SV.tup [SV.a (1 : Nat), SV.c (Value.int IntKind.i64 (partF b i (↑k : Int)).snd)]) = some (SV.tup [SV.a (1 : Nat), SV.c (Value.int IntKind.i64 (partF b i (↑k : Int)).snd)]) ∧
  some (SV.tup [SV.a (1 : Nat), SV.c (Value.int IntKind.i64 (partF b i (↑k : Int)).snd)]) = some (SV.tup [SV.a (1 : Nat), SV.c (Value.int IntKind.i64 (partF b i (↑k : Int)).snd)]) ∧
  some (SV.c (Value.int IntKind.i64 (↑k : Int))) = some (SV.c (Value.int IntKind.i64 (↑k : Int))) ∧ some (SV.c (Value.int IntKind.i64 i)) = some (SV.c (Value.int IntKind.i64 i)) ∧
  some (SV.a (0 : Nat)) = some (SV.a (0 : Nat)) ∧ some (SV.c (Value.bool (decide ((8 : Int) < (↑k : Int))))) = some (SV.c (Value.bool (decide ((8 : Int) < (↑k : Int))))) ∧
  some (SV.c (Value.bool (decide ((8 : Int) < (↑k : Int))))) = some (SV.c (Value.bool (decide ((8 : Int) < (↑k : Int))))) ∧ some (SV.c (Value.int IntKind.i64 (↑k : Int))) = some (SV.c (Value.int IntKind.i64 (↑k : Int))) ∧
  some (SV.b false) = some (SV.b false) ∧ some (SV.c (Value.bool (decide ((↑k : Int) < (1 : Int))))) = some (SV.c (Value.bool (decide ((↑k : Int) < (1 : Int))))) ∧
  some (SV.c (Value.int IntKind.i64 (↑k : Int))) = some (SV.c (Value.int IntKind.i64 (↑k : Int))) ∧ some (SV.a (0 : Nat)) = some (SV.a (0 : Nat)) ∧ some (SV.c (Value.int IntKind.i64 i)) = some (SV.c (Value.int IntKind.i64 i)) ∧
  some (SV.c (Value.int IntKind.i64 (↑k : Int))) = some (SV.c (Value.int IntKind.i64 (↑k : Int))) ∧ True) ∧ some (R.own (5 : Nat) (D.ints IntKind.u8 (partF b i (↑k : Int)).fst)) = some (R.own (5 : Nat) (D.ints IntKind.u8 (partF b i (↑k : Int)).fst)) ∧
  some (R.ro (D.ints IntKind.u8 b)) = some (R.ro (D.ints IntKind.u8 b)) ∧ True) (valF (List.take g (partF b i (↑k : Int)).fst) = valF (partF b i (↑(↑k : Int).toNat : Int)).fst ∧
  (partF b i (↑k : Int)).snd = (partF b i (↑(↑k : Int).toNat : Int)).snd ∧ (true && true) = true))) := by
  simp only [↓sw_iff, ↓Bool.and_eq_true, ↓decide_eq_true_eq, ↓decide_eq_false_iff_not, true_and, and_true, Int.toNat_natCast]
  intro b i k h hb h1 h2 h3
  have hp := part_ok hb i (k : Int)
  have hl := part_len (b := b) (i := i) (k := k)
  refine ⟨fun t => absurd t (by omega), fun _ => ⟨fun t => absurd t (by omega), fun _ => ⟨⟨b, i, k, rfl, h, h1, by unfold okI; omega⟩, 0, Nat.zero_le _, rfl, rfl, ?_⟩⟩⟩
  intro g hg
  refine ⟨fun t => ?_, fun t => ?_⟩
  · have hlt : g < (partF b i (k : Int)).1.length := by have := t; omega
    have hx := okB_getD hp g
    have hv := val_small (okB_take hp g) (by rw [List.length_take]; omega)
    refine ⟨⟨by omega, by omega⟩, by omega, g + 1, hlt, by omega, by rw [wrap_i64_id (by omega) (by omega)]; rfl, ?_⟩
    rw [or_byte hv.1 hv.2 hx.1 hx.2, take_succ_getD hlt, val_snoc]
  · rw [List.take_of_length_le (by have := t; omega)]
set_option maxRecDepth 100000 in
theorem ok20 : FnIs Tryd.prog 20 (getC 8) := by
  refine fnIs (C := (ctrs c2)) (by kernel_rfl) c2_ok Tryd.func20 (code := code20) (by kernel_rfl) (by kernel_rfl) ?_
  rintro a ⟨b, i, k, rfl, h, hb, h1, h2, h3⟩
  exact ⟨anns [(5, valAnn 26 6 (partF b i k).1)] [1], kcast (vc20 b i k h hb h1 h2 h3) (by kernel_rfl)⟩

noncomputable def code39 : Code := match Tryd.f39.body with | some c => c | none => .skip
set_option maxHeartbeats 4000000 in
theorem vc39 : ∀ (b : List Int) (i : Int) (k : Nat), sm b.length → okB b → okI i → (1 : Nat) ≤ k → k ≤ (8 : Nat) → True ∧ sw (decide ((↑k : Int) < (1 : Int))) ((0 : Int) = valF (partF b i (↑(↑k : Int).toNat : Int)).fst ∧
  (1 : Int) = (partF b i (↑(↑k : Int).toNat : Int)).snd ∧ (true && true) = true) (True ∧ sw (decide ((8 : Int) < (↑k : Int))) ((0 : Int) = valF (partF b i (↑(↑k : Int).toNat : Int)).fst ∧
  (1 : Int) = (partF b i (↑(↑k : Int).toNat : Int)).snd ∧ (true && true) = true) (True ∧ sw (decide (i < (0 : Int))) ((0 : Int) = valF (partF b i (↑(↑k : Int).toNat : Int)).fst ∧
  (1 : Int) = (partF b i (↑(↑k : Int).toNat : Int)).snd ∧ (true && true) = true) ((∃ (b_1 : List Int), ∃ (i_1 : Int), ∃ (n : Int), [O.d (D.ints IntKind.u8 b), O.d (D.v (Value.int IntKind.i64 i)), O.d (D.v (Value.int IntKind.i64 (↑k : Int)))] = [O.d (D.ints IntKind.u8 b_1), O.d (D.v (Value.int IntKind.i64 i_1)), O.d (D.v (Value.int IntKind.i64 n))] ∧
  sm b_1.length ∧ okI i_1 ∧ okI n) ∧ True ∧ sw (!decide ((partF b i (↑k : Int)).snd = (0 : Int))) ((0 : Int) = valF (partF b i (↑(↑k : Int).toNat : Int)).fst ∧
  (partF b i (↑k : Int)).snd = (partF b i (↑(↑k : Int).toNat : Int)).snd ∧ (true && true) = true) (∃ (g0 : Nat), g0 ≤ (partF b i (↑k : Int)).fst.length ∧
  (0 : Int) = (↑g0 : Int) ∧ (0 : Int) = valF (List.take g0 (partF b i (↑k : Int)).fst) ∧ (true && true) = true ∧ ∀ (g : Nat), g ≤ (partF b i (↑k : Int)).fst.length →
  True ∧ sw (decide ((↑g : Int) < (↑(partF b i (↑k : Int)).fst.length : Int))) (True ∧ ((0 : Int) ≤ (↑g : Int) ∧ (↑g : Int) < (↑(partF b i (↑k : Int)).fst.length : Int)) ∧
  True ∧ True ∧ ∃ (g' : Nat), g' ≤ (partF b i (↑k : Int)).fst.length ∧ (partF b i (↑k : Int)).fst.length - g' < (partF b i (↑k : Int)).fst.length - g ∧ (IntKind.i64.wrap ((↑g : Int) + (1 : Int)) = (↑g' : Int) ∧
  IntKind.u64.wrap (IntKind.u64.wrap (valF (List.take g (partF b i (↑k : Int)).fst) * (256 : Int)) + IntKind.u64.wrap ((partF b i (↑k : Int)).fst.getD (↑g : Int).toNat (0 : Int))) = valF (List.take g' (partF b i (↑k : Int)).fst) ∧
  (true && true && true) = true) ∧ (some (SV.c (Value.bool !decide ((partF b i (↑k : Int)).snd = (0 : Int)))) = some (SV.c (Value.bool !decide ((partF b i (↑k : Int)).snd = (0 : Int)))) ∧
  some (SV.c (Value.int IntKind.i64 (partF b i (↑k : Int)).snd)) = some (SV.c (Value.int IntKind.i64 (partF b i (↑k : Int)).snd)) ∧ some (SV.c (Value.int IntKind.i64 (partF b i (↑k : Int)).snd)) = some (SV.c (Value.int IntKind.i64 (partF b i (↑k : Int)).snd)) ∧
  some (SV.a (1 : Nat)) = some (SV.a (1 : Nat)) ∧ some (SV.c (Value.int IntKind.i64 (partF b i (↑k : Int)).snd)) = some (SV.c (Value.int IntKind.i64 (partF b i (↑k : Int)).snd)) ∧
  some (SV.a (1 : Nat)) = some (SV.a (1 : Nat)) ∧ some (SV.tup [SV.a (1 : Nat), SV.c (Value.int IntKind.i64 (partF b i (↑k : Int)).snd)]) = some (SV.tup [SV.a (1 : Nat), SV.c (Value.int IntKind.i64 (partF b i (↑k : Int)).snd)]) ∧
  some (SV.tup [SV.a (1 : Nat), SV.c (Value.int IntKind.i64 (partF b i (↑k : Int)).snd)]) = some (SV.tup [SV.a (1 : Nat), SV.c (Value.int IntKind.i64 (partF b i (↑k : Int)).snd)]) ∧
  some (SV.c (Value.int IntKind.i64 (↑k : Int))) = some (SV.c (Value.int IntKind.i64 (↑k : Int))) ∧ some (SV.c (Value.int IntKind.i64 i)) = some (SV.c (Value.int IntKind.i64 i)) ∧
  some (SV.a (0 : Nat)) = some (SV.a (0 : Nat)) ∧ some (SV.c (Value.bool (decide (i < (0 : Int))))) = some (SV.c (Value.bool (decide (i < (0 : Int))))) ∧
  some (SV.c (Value.bool (decide (i < (0 : Int))))) = some (SV.c (Value.bool (decide (i < (0 : Int))))) ∧ some (SV.c (Value.int IntKind.i64 i)) = some (SV.c (Value.int IntKind.i64 i)) ∧
  some (SV.b false) = some (SV.b false) ∧ some (SV.c (Value.bool (decide ((8 : Int) < (↑k : Int))))) = some (SV.c (Value.bool (decide ((8 : Int) < (↑k : Int))))) ∧
  some (SV.c (Value.bool (decide ((8 : Int) < (↑k : Int))))) = some (SV.c (Value.bool (decide ((8 : Int) < (↑k : Int))))) ∧ some (SV.c (Value.int IntKind.i64 (↑k : Int))) = some (SV.c (Value.int IntKind.i64 (↑k : Int))) ∧
  some (SV.b false) = some (SV.b false) ∧ some (SV.c (Value.bool (decide ((↑k : Int) < (1 : Int))))) = some (SV.c (Value.bool (decide ((↑k : Int) < (1 : Int))))) ∧
  some (SV.c (Value.int IntKind.i64 (↑k : Int))) = some (SV.c (Value.int IntKind.i64 (↑k : Int))) ∧ some (SV.c (Value.int IntKind.i64 (0 : Int))) = some (SV.c (Value.int IntKind.i64 (0 : Int))) ∧
  some (SV.c (Value.int IntKind.u64 (0 : Int))) = some (SV.c (Value.int IntKind.u64 (0 : Int))) ∧ some (SV.a (0 : Nat)) = some (SV.a (0 : Nat)) ∧ some (SV.c (Value.int IntKind.i64 i)) = some (SV.c (Value.int IntKind.i64 i)) ∧
  some (SV.c (Value.int IntKind.i64 (↑k : Int))) = some (SV.c (Value.int IntKind.i64 (↑k : Int))) ∧ True) ∧ some (R.own (5 : Nat) (D.ints IntKind.u8 (partF b i (↑k : Int)).fst)) = some (R.own (5 : Nat) (D.ints IntKind.u8 (partF b i (↑k : Int)).fst)) ∧
  some (R.ro (D.ints IntKind.u8 b)) = some (R.ro (D.ints IntKind.u8 b)) ∧ True) (valF (List.take g (partF b i (↑k : Int)).fst) = valF (partF b i (↑(↑k : Int).toNat : Int)).fst ∧
  (0 : Int) = (partF b i (↑(↑k : Int).toNat : Int)).snd ∧ (true && true) = true))))) := by
  simp only [↓sw_iff, ↓Bool.and_eq_true, ↓decide_eq_true_eq, ↓decide_eq_false_iff_not, ↓Bool.not_eq_true', ↓Bool.not_eq_false', true_and, and_true, Int.toNat_natCast]
  intro b i k h hb h1 h2 h3
  have hp := part_ok hb i (k : Int)
  have hl := part_len (b := b) (i := i) (k := k)
  have he := part_err b i (k : Int)
  refine ⟨fun t => absurd t (by omega), fun _ => ⟨fun t => absurd t (by omega), fun _ => ⟨fun t => ?_, fun _ => ⟨⟨b, i, k, rfl, h, h1, by unfold okI; omega⟩, fun t => ?_, fun t => ⟨0, Nat.zero_le _, rfl, rfl, ?_⟩⟩⟩⟩⟩
  · have key : partF b i (k : Int) = ([], 1) := by unfold partF; rw [if_pos (.inl t)]
    rw [key]; exact ⟨rfl, rfl⟩
  · rw [he t]; rfl
  have he0 : (partF b i (k : Int)).2 = 0 := t
  intro g hg
  refine ⟨fun t => ?_, fun t => ?_⟩
  · have hlt : g < (partF b i (k : Int)).1.length := by have := t; omega
    have hx := okB_getD hp g
    have hv := val_small (okB_take hp g) (by rw [List.length_take]; omega)
    have hv2 : valF ((partF b i (k : Int)).1.take g) < 72057594037927936 := hv.2
    refine ⟨⟨by omega, by omega⟩, g + 1, hlt, by omega, by rw [wrap_i64_id (by omega) (by omega)]; rfl, ?_⟩
    rw [take_succ_getD hlt, val_snoc, IntKind.wrap_u64, IntKind.wrap_u64, IntKind.wrap_u64]
    omega
  · rw [List.take_of_length_le (by have := t; omega)]
    exact ⟨rfl, he0.symm⟩
set_option maxRecDepth 100000 in
theorem ok39 : FnIs Tryd.prog 39 (getC 8) := by
  refine fnIs (C := (ctrs c2)) (by kernel_rfl) c2_ok Tryd.func39 (code := code39) (by kernel_rfl) (by kernel_rfl) ?_
  rintro a ⟨b, i, k, rfl, h, hb, h1, h2, h3⟩
  exact ⟨anns [(8, valAnn 11 10 (partF b i k).1)] [1], kcast (vc39 b i k h hb h1 h2 h3) (by kernel_rfl)⟩

theorem c3_ok : COk Tryd.prog (ctrs c3) := cok_cons ok39 cok_nil

noncomputable def code23 : Code := match Tryd.f23.body with | some c => c | none => .skip
set_option maxHeartbeats 4000000 in
theorem vc23 : ∀ (b : List Int) (i : Int) (k : Nat), sm b.length → okB b → okI i → (1 : Nat) ≤ k → k ≤ (7 : Nat) → (∃ (b_1 : List Int), ∃ (i_1 : Int), ∃ (k_1 : Nat), [O.d (D.ints IntKind.u8 b), O.d (D.v (Value.int IntKind.i64 i)), O.d (D.v (Value.int IntKind.i64 (↑k : Int)))] = [O.d (D.ints IntKind.u8 b_1), O.d (D.v (Value.int IntKind.i64 i_1)), O.d (D.v (Value.int IntKind.i64 (↑k_1 : Int)))] ∧
  sm b_1.length ∧ okB b_1 ∧ okI i_1 ∧ (1 : Nat) ≤ k_1 ∧ k_1 ≤ (8 : Nat)) ∧ IntKind.i64.wrap (valF (partF b i (↑(↑k : Int).toNat : Int)).fst) = valF (partF b i (↑(↑k : Int).toNat : Int)).fst ∧
  (true && true) = true := by
  simp only [↓Bool.and_eq_true, and_true, Int.toNat_natCast]
  intro b i k h hb h1 h2 h3
  refine ⟨⟨b, i, k, rfl, h, hb, h1, h2, by omega⟩, ?_⟩
  have hs := val_small (part_ok hb i (k : Int)) (Nat.le_trans part_len h3)
  have h7 : (256 : Int) ^ 7 = 72057594037927936 := rfl
  rw [wrap_i64_id (by omega) (by omega)]
set_option maxRecDepth 100000 in
theorem ok23 : FnIs Tryd.prog 23 numC := by
  refine fnIs (C := (ctrs c3)) (by kernel_rfl) c3_ok Tryd.func23 (code := code23) (by kernel_rfl) (by kernel_rfl) ?_
  rintro a ⟨b, i, k, rfl, h, hb, h1, h2, h3⟩
  exact ⟨anns [], kcast (vc23 b i k h hb h1 h2 h3) (by kernel_rfl)⟩

end Go.ZR

/- The sum of bytes: contracts. -/
set_option maxRecDepth 100000
namespace Go.ZM
open Go.Z Go.ZR
def tabF : List Int := [0, 274646895, 549293790, 820201905, 1098587580, 1361435347, 1640403810, 1905808397, 2197175160, 2460548119, 2722870694, 2987750089, 3280807620, 3553878443, 3811616794, 4084100981]
def tabL (i : Nat) : List Int := (List.range 16).map fun j => if j < i then iv (sN 4 (bv j)) else 0
/-- As a byte's bits are taken in, one by one. -/
def ckR (c : BitVec 32) (x : Int) (k : Nat) : BitVec 32 := sN k (c ^^^ bv x) ^^^ (bv x >>> k)
end Go.ZM
namespace Go.ZR
open Go.Z Go.ZM Go.Proofs
def moreC : Ctr := nC 2 false (fun a => ∃ s b, a = [iO .u32 s, bsO b] ∧ (0 ≤ s ∧ s ≤ 4294967295) ∧ sm b.length ∧ okB b) fun a => [iO .u32 (moreF (vi (dO (at_ a 0))) (vl (dO (at_ a 1))))]
def csumC : Ctr := nC 1 false (fun a => ∃ b, a = [bsO b] ∧ sm b.length ∧ okB b) fun a => [iO .u32 (sumF (vl (dO (at_ a 0))))]
def tableC : Ctr := nC 0 false (fun a => a = []) fun _ => [.va .u32 tabF]
def moreAnn (s t : Nat) (c : BitVec 32) (b : List Int) : LoopAnn where
  γ := Nat
  pre := fun i => i ≤ b.length
  μ := fun i => b.length - i
  items := fun i => [(s, .c (iO .i64 (i : Int))), (t, .c (iO .u32 (iv (crcR c (b.take i)))))]
def bitAnn (s t : Nat) (c : BitVec 32) (b : List Int) : LoopF := .fam Nat fun i =>
  { γ := Nat
    pre := fun k => k ≤ 8
    μ := fun k => 8 - k
    items := fun k => [(s, .c (iO .i64 (k : Int))), (t, .c (iO .u32 (iv (ckR (crcR c (b.take i)) (b.getD i 0) k))))] }
def tabAnn (s t : Nat) : LoopAnn where
  γ := Nat
  pre := fun i => i ≤ 16
  μ := fun i => 16 - i
  items := fun i => [(s, .c (iO .i64 (i : Int))), (t, .c (.arr 70 .u32 (tabL i)))]
def tabBit (s t : Nat) : LoopF := .fam Nat fun i =>
  { γ := Nat
    pre := fun k => k ≤ 4
    μ := fun k => 4 - k
    items := fun k => [(s, .c (iO .i64 (k : Int))), (t, .c (iO .u32 (iv (sN k (bv i)))))] }
def k1 : List (Nat × Ctr) := [(44, tableC)]
def k2 : List (Nat × Ctr) := [(31, moreC)]
def k3 : List (Nat × Ctr) := [(37, moreC)]
end Go.ZR

/- The sum of bytes: walked. -/
namespace Go.ZR
open Go.Proofs
open Go.Z Go.ZM Go.RowKit
set_option maxRecDepth 100000
theorem size70 : Tryd.prog.types[(70 : Nat)].size = 16 := by kernel_rfl
theorem iv_one : iv 1#32 = 1 := rfl
theorem iv_15 : iv 15#32 = 15 := rfl
theorem iv_poly : iv poly = 2197175160 := rfl
theorem and_one (c : BitVec 32) : bits .and .u32 (iv c) 1 = if c.getLsbD 0 then 1 else 0 := by
  rw [← iv_one, and_iv, BitVec.and_one_eq_setWidth_ofBool_getLsbD]
  cases c.getLsbD 0 <;> rfl
theorem shr1 (c : BitVec 32) : Int.fdiv (iv c) (2 ^ min (Int.toNat 1) (IntKind.bits .u32)) = iv (c >>> 1) := shr_iv c 1 (by decide)
theorem shr4 (c : BitVec 32) : Int.fdiv (iv c) (2 ^ min (Int.toNat 4) (IntKind.bits .u32)) = iv (c >>> 4) := shr_iv c 4 (by decide)
theorem step_neg (c : BitVec 32) : bits .xor .u32 (iv (c >>> 1)) (bits .and .u32 2197175160 (IntKind.u32.wrap (0 - bits .and .u32 (iv c) 1))) = iv (s1 c) := by
  rw [and_one]
  unfold s1
  cases c.getLsbD 0 with
  | true =>
    rw [if_pos rfl, if_pos rfl]
    have : bits .and .u32 2197175160 (IntKind.u32.wrap (0 - 1)) = iv poly := by decide
    rw [this, xor_iv]
  | false =>
    rw [if_neg (by decide), if_neg (by decide)]
    have : bits .and .u32 2197175160 (IntKind.u32.wrap (0 - 0)) = iv 0#32 := by decide
    rw [this, xor_iv]
theorem tab_ok : tabL 16 = tabF := by decide +kernel
theorem tabL_zero : tabL 0 = List.replicate 16 0 := by decide +kernel
theorem tabL_set : ∀ i : Fin 16, (tabL i).set i (iv (sN 4 (bv (i : Nat)))) = tabL (i + 1) := by decide +kernel
theorem wrap_byte {x : Int} (h0 : 0 ≤ x) (h1 : x ≤ 255) : IntKind.u32.wrap x = iv (bv x) := by
  rw [iv_bv h0 (by omega), IntKind.wrap_u32]; omega
theorem and15 (d : BitVec 32) : bits .and .u32 (iv d) 15 = iv (d &&& 15#32) := by rw [← iv_15, and_iv]
theorem and15_rng (d : BitVec 32) : 0 ≤ iv (d &&& 15#32) ∧ iv (d &&& 15#32) < 16 := by
  have : (d &&& 15#32).toNat ≤ 15 := by rw [BitVec.toNat_and]; exact Nat.and_le_right
  unfold iv
  omega
theorem tab_get (d : BitVec 32) : tabF.getD (iv (d &&& 15#32)).toNat 0 = iv (sN 4 (d &&& 15#32)) := by
  have h := and15_rng d
  have key : ∀ i : Fin 16, tabF.getD i 0 = iv (sN 4 (bv (i : Nat))) := by decide +kernel
  have := key ⟨(iv (d &&& 15#32)).toNat, by omega⟩
  simp only [show (((iv (d &&& 15#32)).toNat : Nat) : Int) = iv (d &&& 15#32) by omega, bv_iv] at this
  exact this
theorem nib (d : BitVec 32) : (d >>> 4) ^^^ sN 4 (d &&& 15#32) = sN 4 d := by
  have e : d = (d &&& ~~~15#32) ^^^ (d &&& 15#32) := by
    apply BitVec.eq_of_getLsbD_eq
    intro i hi
    rw [BitVec.getLsbD_xor, BitVec.getLsbD_and, BitVec.getLsbD_and, BitVec.getLsbD_not]
    cases d.getLsbD i <;> cases (15#32).getLsbD i <;> simp [hi]
  have z : ∀ i, i < 4 → (d &&& ~~~15#32).getLsbD i = false := by
    intro i hi
    rw [BitVec.getLsbD_and, BitVec.getLsbD_not]
    have : (15#32).getLsbD i = true := by
      have : ∀ i : Fin 4, (15#32).getLsbD i = true := by decide
      exact this ⟨i, hi⟩
    rw [this]; simp
  conv => rhs; rw [e, sN_xor, sN_shr 4 _ z]
  congr 1
  apply BitVec.eq_of_getLsbD_eq
  intro i hi
  rw [BitVec.getLsbD_ushiftRight, BitVec.getLsbD_ushiftRight, BitVec.getLsbD_and, BitVec.getLsbD_not]
  have : (15#32).getLsbD (4 + i) = false := by
    have : ∀ i : Fin 32, (15#32).getLsbD (4 + i) = false := by decide
    exact this ⟨i, hi⟩
  rw [this]
  cases h : d.getLsbD (4 + i) with
  | false => rfl
  | true => have := BitVec.lt_of_getLsbD h; simp [this]
theorem byte_nibs (c : BitVec 32) (x : Int) : sN 4 (sN 4 (c ^^^ bv x)) = byteR c x := by
  rw [← sN_add]; rfl
theorem ckR_zero (c : BitVec 32) (x : Int) : ckR c x 0 = c := by
  unfold ckR
  simp [sN, BitVec.xor_assoc]
theorem ckR_end (c : BitVec 32) {x : Int} (h0 : 0 ≤ x) (h1 : x ≤ 255) : ckR c x 8 = byteR c x := by
  unfold ckR byteR
  have : bv x >>> 8 = 0#32 := by
    apply BitVec.eq_of_toNat_eq
    have := iv_bv h0 (show x ≤ 4294967295 by omega)
    unfold iv at this
    rw [BitVec.toNat_ushiftRight, Nat.shiftRight_eq_div_pow]
    simp
    omega
  rw [this]; simp
theorem ckR_succ (c : BitVec 32) (x : Int) (k : Nat) : ckR c x (k + 1) = (ckR c x k >>> 1) ^^^ (if (bv x >>> k ^^^ ckR c x k).getLsbD 0 then poly else 0#32) := by
  have e : bv x >>> k ^^^ ckR c x k = sN k (c ^^^ bv x) := by
    unfold ckR
    rw [BitVec.xor_comm, BitVec.xor_assoc]; simp
  rw [e]
  unfold ckR
  rw [sN_succ, BitVec.ushiftRight_xor_distrib, ← BitVec.shiftRight_add]
  generalize sN k (c ^^^ bv x) = d
  unfold s1
  rw [BitVec.xor_assoc, BitVec.xor_assoc]
  congr 1
  rw [BitVec.xor_comm]
theorem shrk {x : Int} (h0 : 0 ≤ x) (h1 : x ≤ 255) {k : Nat} (hk : k < 8) : Int.fdiv (IntKind.u32.wrap x) (2 ^ min (IntKind.u64.wrap (k : Int)).toNat (IntKind.bits .u32)) = iv (bv x >>> k) := by
  rw [wrap_byte h0 h1, show (IntKind.u64.wrap (k : Int)).toNat = k by rw [IntKind.wrap_u64]; omega]
  exact shr_iv _ k (by omega)
theorem sub_not {s : Int} (h : 0 ≤ s ∧ s ≤ 4294967295) : IntKind.u32.wrap (4294967295 - s) = iv (~~~ bv s) := by
  have := iv_bv h.1 h.2
  unfold iv at *
  rw [BitVec.toNat_not, IntKind.wrap_u32]
  omega
theorem xor_not {s : Int} (h : 0 ≤ s ∧ s ≤ 4294967295) : bits .xor .u32 IntKind.u32.max s = iv (~~~ bv s) := by
  have e : IntKind.u32.max = iv (BitVec.allOnes 32) := rfl
  rw [e, ← iv_bv h.1 h.2, xor_iv, bv_iv, BitVec.allOnes_xor]
theorem iv_sub (c : BitVec 32) : IntKind.u32.wrap (4294967295 - iv c) = iv (~~~ c) := by
  rw [sub_not (iv_rng c), bv_iv]
theorem iv_not (c : BitVec 32) : bits .xor .u32 IntKind.u32.max (iv c) = iv (~~~ c) := by
  rw [xor_not (iv_rng c), bv_iv]
noncomputable def code44 : Code := match Tryd.f44.body with | some c => c | none => .skip
set_option maxHeartbeats 4000000 in
theorem vc44 : ∃ (g0 : Nat), g0 ≤ (16 : Nat) ∧ (0 : Int) = (↑g0 : Int) ∧ List.replicate (16 : Nat) (0 : Int) = tabL g0 ∧ (!false && true && true) = true ∧ ∀ (g : Nat), g ≤ (16 : Nat) →
  True ∧ sw (decide ((↑g : Int) < (16 : Int))) (∃ (p : Nat), ∃ (g0_1 : Nat), g0_1 ≤ (4 : Nat) ∧ (0 : Int) = (↑g0_1 : Int) ∧ IntKind.u32.wrap (↑g : Int) = iv (sN g0_1 (bv (↑p : Int))) ∧
  (true && true) = true ∧ ∀ (g_1 : Nat), g_1 ≤ (4 : Nat) → True ∧ sw (decide ((↑g_1 : Int) < (4 : Int))) ((0 : Int) ≤ (1 : Int) ∧ True ∧ True ∧ True ∧ True ∧
  ∃ (g' : Nat), g' ≤ (4 : Nat) ∧ (4 : Nat) - g' < (4 : Nat) - g_1 ∧ (IntKind.i64.wrap ((↑g_1 : Int) + (1 : Int)) = (↑g' : Int) ∧ bits BinOp.xor IntKind.u32 ((iv (sN g_1 (bv (↑p : Int)))).fdiv ((2 : Int) ^ min (Int.toNat (1 : Int)) IntKind.u32.bits)) (bits BinOp.and IntKind.u32 (2197175160 : Int) (IntKind.u32.wrap ((0 : Int) - bits BinOp.and IntKind.u32 (iv (sN g_1 (bv (↑p : Int)))) (1 : Int)))) = iv (sN g' (bv (↑p : Int))) ∧
  (true && true && true) = true) ∧ (some (SV.c (Value.int IntKind.u32 (IntKind.u32.wrap (↑g : Int)))) = some (SV.c (Value.int IntKind.u32 (IntKind.u32.wrap (↑g : Int)))) ∧
  some (SV.c (Value.int IntKind.i64 (↑g : Int))) = some (SV.c (Value.int IntKind.i64 (↑g : Int))) ∧ some (SV.c (Value.int IntKind.i64 (↑g : Int))) = some (SV.c (Value.int IntKind.i64 (↑g : Int))) ∧
  some (SV.c (Value.int IntKind.i64 (↑g : Int))) = some (SV.c (Value.int IntKind.i64 (↑g : Int))) ∧ some (SV.c (Value.bool (decide ((↑g : Int) < (16 : Int))))) = some (SV.c (Value.bool (decide ((↑g : Int) < (16 : Int))))) ∧
  some (SV.c (Value.int IntKind.i64 (↑g : Int))) = some (SV.c (Value.int IntKind.i64 (↑g : Int))) ∧ some (SV.q (1 : Nat)) = some (SV.q (1 : Nat)) ∧ True) ∧
  some (R.own (70 : Nat) (D.ints IntKind.u32 (tabL g))) = some (R.own (70 : Nat) (D.ints IntKind.u32 (tabL g))) ∧ some R.dead = some R.dead ∧ True) (((0 : Int) ≤ (↑g : Int) ∧
  (↑g : Int) < (↑(16 : Nat) : Int) ∧ (16 : Nat) = (16 : Nat)) ∧ IntKind.u32 = IntKind.u32 ∧ True ∧ ∃ (g' : Nat), g' ≤ (16 : Nat) ∧ (16 : Nat) - g' < (16 : Nat) - g ∧
  (IntKind.i64.wrap ((↑g : Int) + (1 : Int)) = (↑g' : Int) ∧ (tabL g).set (↑g : Int).toNat (iv (sN g_1 (bv (↑p : Int)))) = tabL g' ∧ (!false && true && true && ((Nat.ble (1 : Nat) (1 : Nat) || (Nat.beq (0 : Nat) (1 : Nat) || false)) && true)) = true) ∧
  True ∧ True)) (Tryd.prog.types[(70 : Nat)].size = (16 : Nat) ∧ (IntKind.u32 = IntKind.u32 ∧ Tryd.prog.types[(70 : Nat)].size = (16 : Nat) ∧ (16 : Nat) = (16 : Nat)) ∧
  Tryd.prog.types[(70 : Nat)].size = (16 : Nat) ∧ tabL g = tabF ∧ (true && true) = true) := by
  simp only [↓sw_iff, ↓Bool.and_eq_true, ↓decide_eq_true_eq, ↓decide_eq_false_iff_not, ↓Bool.not_eq_true', true_and, and_true, Bool.or_false, Nat.ble, Nat.beq, Int.toNat_natCast, size70, shr1, step_neg]
  refine ⟨0, by omega, rfl, tabL_zero.symm, fun g hg => ⟨fun h => ?_, fun h => ?_⟩⟩
  · refine ⟨g, 0, by omega, rfl, ?_, fun k hk => ⟨fun h' => ?_, fun h' => ?_⟩⟩
    · show _ = iv (bv (g : Int)); exact (wrap_byte (by omega) (by omega))
    · exact ⟨by omega, k + 1, by omega, by omega, by rw [wrap_i64_id (by omega) (by omega)]; omega, by rw [sN_succ]⟩
    · have : k = 4 := by omega
      subst this
      exact ⟨⟨by omega, by omega⟩, g + 1, by omega, by omega, by rw [wrap_i64_id (by omega) (by omega)]; omega, by have := tabL_set ⟨g, by omega⟩; simpa using this⟩
  · have : g = 16 := by omega
    subst this
    exact tab_ok
set_option maxRecDepth 100000 in
theorem ok44 : FnIs Tryd.prog 44 tableC := by
  refine fnIs (C := (ctrs c0)) (by kernel_rfl) c0_ok Tryd.func44 (code := code44) (by kernel_rfl) (by kernel_rfl) ?_
  rintro a rfl
  exact ⟨anns [(2, tabAnn 3 0), (6, tabBit 8 2)], kcast (vc44) (by kernel_rfl)⟩

theorem k1_ok : COk Tryd.prog (ctrs k1) := cok_cons ok44 cok_nil

noncomputable def code31 : Code := match Tryd.f31.body with | some c => c | none => .skip
set_option maxHeartbeats 4000000 in
theorem vc31 : ∀ (s : Int) (b : List Int), (0 : Int) ≤ s ∧ s ≤ (4294967295 : Int) → sm b.length → okB b → ([] : List O) = [] ∧ (IntKind.u32 = IntKind.u32 ∧ Tryd.prog.types[(70 : Nat)].size = (16 : Nat) ∧
  (16 : Nat) = (16 : Nat)) ∧ ∃ (g0 : Nat), g0 ≤ b.length ∧ (0 : Int) = (↑g0 : Int) ∧ bits BinOp.xor IntKind.u32 IntKind.u32.max s = iv (crcR (~~~bv s) (List.take g0 b)) ∧
  (true && true) = true ∧ ∀ (g : Nat), g ≤ b.length → True ∧ sw (decide ((↑g : Int) < (↑b.length : Int))) (((0 : Int) ≤ (↑g : Int) ∧ (↑g : Int) < (↑b.length : Int)) ∧
  True ∧ (0 : Int) ≤ (4 : Int) ∧ True ∧ ((0 : Int) ≤ bits BinOp.and IntKind.u32 (bits BinOp.xor IntKind.u32 (iv (crcR (~~~bv s) (List.take g b))) (IntKind.u32.wrap (b.getD (↑g : Int).toNat (0 : Int)))) (15 : Int) ∧
  bits BinOp.and IntKind.u32 (bits BinOp.xor IntKind.u32 (iv (crcR (~~~bv s) (List.take g b))) (IntKind.u32.wrap (b.getD (↑g : Int).toNat (0 : Int)))) (15 : Int) < (↑(16 : Nat) : Int) ∧
  (16 : Nat) = (16 : Nat)) ∧ True ∧ (0 : Int) ≤ (4 : Int) ∧ True ∧ ((0 : Int) ≤ bits BinOp.and IntKind.u32 (bits BinOp.xor IntKind.u32 ((bits BinOp.xor IntKind.u32 (iv (crcR (~~~bv s) (List.take g b))) (IntKind.u32.wrap (b.getD (↑g : Int).toNat (0 : Int)))).fdiv ((2 : Int) ^ min (Int.toNat (4 : Int)) IntKind.u32.bits)) (tabF.getD (bits BinOp.and IntKind.u32 (bits BinOp.xor IntKind.u32 (iv (crcR (~~~bv s) (List.take g b))) (IntKind.u32.wrap (b.getD (↑g : Int).toNat (0 : Int)))) (15 : Int)).toNat (0 : Int))) (15 : Int) ∧
  bits BinOp.and IntKind.u32 (bits BinOp.xor IntKind.u32 ((bits BinOp.xor IntKind.u32 (iv (crcR (~~~bv s) (List.take g b))) (IntKind.u32.wrap (b.getD (↑g : Int).toNat (0 : Int)))).fdiv ((2 : Int) ^ min (Int.toNat (4 : Int)) IntKind.u32.bits)) (tabF.getD (bits BinOp.and IntKind.u32 (bits BinOp.xor IntKind.u32 (iv (crcR (~~~bv s) (List.take g b))) (IntKind.u32.wrap (b.getD (↑g : Int).toNat (0 : Int)))) (15 : Int)).toNat (0 : Int))) (15 : Int) < (↑(16 : Nat) : Int) ∧
  (16 : Nat) = (16 : Nat)) ∧ True ∧ True ∧ ∃ (g' : Nat), g' ≤ b.length ∧ b.length - g' < b.length - g ∧ (IntKind.i64.wrap ((↑g : Int) + (1 : Int)) = (↑g' : Int) ∧
  bits BinOp.xor IntKind.u32 ((bits BinOp.xor IntKind.u32 ((bits BinOp.xor IntKind.u32 (iv (crcR (~~~bv s) (List.take g b))) (IntKind.u32.wrap (b.getD (↑g : Int).toNat (0 : Int)))).fdiv ((2 : Int) ^ min (Int.toNat (4 : Int)) IntKind.u32.bits)) (tabF.getD (bits BinOp.and IntKind.u32 (bits BinOp.xor IntKind.u32 (iv (crcR (~~~bv s) (List.take g b))) (IntKind.u32.wrap (b.getD (↑g : Int).toNat (0 : Int)))) (15 : Int)).toNat (0 : Int))).fdiv ((2 : Int) ^ min (Int.toNat (4 : Int)) IntKind.u32.bits)) (tabF.getD (bits BinOp.and IntKind.u32 (bits BinOp.xor IntKind.u32 ((bits BinOp.xor IntKind.u32 (iv (crcR (~~~bv s) (List.take g b))) (IntKind.u32.wrap (b.getD (↑g : Int).toNat (0 : Int)))).fdiv ((2 : Int) ^ min (Int.toNat (4 : Int)) IntKind.u32.bits)) (tabF.getD (bits BinOp.and IntKind.u32 (bits BinOp.xor IntKind.u32 (iv (crcR (~~~bv s) (List.take g b))) (IntKind.u32.wrap (b.getD (↑g : Int).toNat (0 : Int)))) (15 : Int)).toNat (0 : Int))) (15 : Int)).toNat (0 : Int)) = iv (crcR (~~~bv s) (List.take g' b)) ∧
  (true && true && true) = true) ∧ (some (SV.c (Value.int IntKind.i64 (↑b.length : Int))) = some (SV.c (Value.int IntKind.i64 (↑b.length : Int))) ∧ some (SV.a (0 : Nat)) = some (SV.a (0 : Nat)) ∧
  some (SV.c (Value.int IntKind.u32 (bits BinOp.xor IntKind.u32 IntKind.u32.max s))) = some (SV.c (Value.int IntKind.u32 (bits BinOp.xor IntKind.u32 IntKind.u32.max s))) ∧
  some (SV.c (Value.int IntKind.u32 s)) = some (SV.c (Value.int IntKind.u32 s)) ∧ some (SV.q (1 : Nat)) = some (SV.q (1 : Nat)) ∧ some (SV.arr IntKind.u32 tabF) = some (SV.arr IntKind.u32 tabF) ∧
  some (SV.c (Value.int IntKind.u32 (0 : Int))) = some (SV.c (Value.int IntKind.u32 (0 : Int))) ∧ some (SV.c (Value.int IntKind.u32 s)) = some (SV.c (Value.int IntKind.u32 s)) ∧
  some (SV.a (0 : Nat)) = some (SV.a (0 : Nat)) ∧ True) ∧ some (R.own (70 : Nat) (D.ints IntKind.u32 tabF)) = some (R.own (70 : Nat) (D.ints IntKind.u32 tabF)) ∧
  some (R.ro (D.ints IntKind.u8 b)) = some (R.ro (D.ints IntKind.u8 b)) ∧ True) (bits BinOp.xor IntKind.u32 IntKind.u32.max (iv (crcR (~~~bv s) (List.take g b))) = moreF s b ∧
  (true && true) = true) := by
  simp only [↓sw_iff, ↓Bool.and_eq_true, ↓decide_eq_true_eq, ↓decide_eq_false_iff_not, true_and, and_true, Int.toNat_natCast, size70]
  intro s b hs h hb
  unfold sm at h
  refine ⟨0, by omega, rfl, by rw [xor_not hs]; rfl, fun g hg => ⟨fun hl => ?_, fun hl => ?_⟩⟩
  · obtain ⟨x0, x1⟩ := okB_getD hb g
    rw [wrap_byte x0 x1, xor_iv]
    generalize hd : crcR (~~~bv s) (List.take g b) ^^^ bv (b.getD g 0) = d
    simp only [shr4, and15, tab_get, xor_iv, nib]
    have r1 := and15_rng d
    have r2 := and15_rng (sN 4 d)
    refine ⟨by omega, by omega, by omega, by omega, by omega, g + 1, by omega, by omega, ?_, ?_⟩
    · rw [wrap_i64_id (by omega) (by omega)]; omega
    · rw [← hd, byte_nibs, crcR_take (by omega)]
  · have : g = b.length := by omega
    subst this
    rw [List.take_of_length_le (Nat.le_refl _), iv_not]
    rfl
set_option maxRecDepth 100000 in
theorem ok31 : FnIs Tryd.prog 31 moreC := by
  refine fnIs (C := (ctrs k1)) (by kernel_rfl) k1_ok Tryd.func31 (code := code31) (by kernel_rfl) (by kernel_rfl) ?_
  rintro a ⟨s, b, rfl, hs, h, hb⟩
  exact ⟨anns [(4, moreAnn 14 6 (~~~ bv s) b)], kcast (vc31 s b hs h hb) (by kernel_rfl)⟩

theorem k2_ok : COk Tryd.prog (ctrs k2) := cok_cons ok31 cok_nil

noncomputable def code37 : Code := match Tryd.f37.body with | some c => c | none => .skip
set_option maxHeartbeats 4000000 in
theorem vc37 : ∀ (s : Int) (b : List Int), (0 : Int) ≤ s ∧ s ≤ (4294967295 : Int) → sm b.length → okB b → True ∧ ∃ (g0 : Nat), g0 ≤ b.length ∧ (0 : Int) = (↑g0 : Int) ∧
  IntKind.u32.wrap ((4294967295 : Int) - s) = iv (crcR (~~~bv s) (List.take g0 b)) ∧ (true && true) = true ∧ ∀ (g : Nat), g ≤ b.length → True ∧ sw (decide ((↑g : Int) < (↑b.length : Int))) (∃ (p : Nat), ∃ (g0_1 : Nat), g0_1 ≤ (8 : Nat) ∧
  (0 : Int) = (↑g0_1 : Int) ∧ iv (crcR (~~~bv s) (List.take g b)) = iv (ckR (crcR (~~~bv s) (List.take p b)) (b.getD p (0 : Int)) g0_1) ∧ (true && true) = true ∧
  ∀ (g_1 : Nat), g_1 ≤ (8 : Nat) → True ∧ sw (decide ((↑g_1 : Int) < (8 : Int))) (((0 : Int) ≤ (↑g : Int) ∧ (↑g : Int) < (↑b.length : Int)) ∧ (0 : Int) ≤ IntKind.u64.wrap (↑g_1 : Int) ∧
  True ∧ True ∧ (0 : Int) ≤ (1 : Int) ∧ True ∧ sw (decide (bits BinOp.and IntKind.u32 (bits BinOp.xor IntKind.u32 ((IntKind.u32.wrap (b.getD (↑g : Int).toNat (0 : Int))).fdiv ((2 : Int) ^ min (IntKind.u64.wrap (↑g_1 : Int)).toNat IntKind.u32.bits)) (iv (ckR (crcR (~~~bv s) (List.take p b)) (b.getD p (0 : Int)) g_1))) (1 : Int) = (1 : Int))) (True ∧
  True ∧ ∃ (g' : Nat), g' ≤ (8 : Nat) ∧ (8 : Nat) - g' < (8 : Nat) - g_1 ∧ (IntKind.i64.wrap ((↑g_1 : Int) + (1 : Int)) = (↑g' : Int) ∧ bits BinOp.xor IntKind.u32 ((iv (ckR (crcR (~~~bv s) (List.take p b)) (b.getD p (0 : Int)) g_1)).fdiv ((2 : Int) ^ min (Int.toNat (1 : Int)) IntKind.u32.bits)) (2197175160 : Int) = iv (ckR (crcR (~~~bv s) (List.take p b)) (b.getD p (0 : Int)) g') ∧
  (true && true && true) = true) ∧ (some (SV.c (Value.bool (decide ((↑g : Int) < (↑b.length : Int))))) = some (SV.c (Value.bool (decide ((↑g : Int) < (↑b.length : Int))))) ∧
  some (SV.c (Value.int IntKind.i64 (↑b.length : Int))) = some (SV.c (Value.int IntKind.i64 (↑b.length : Int))) ∧ some (SV.a (0 : Nat)) = some (SV.a (0 : Nat)) ∧
  some (SV.c (Value.int IntKind.i64 (↑g : Int))) = some (SV.c (Value.int IntKind.i64 (↑g : Int))) ∧ some (SV.c (Value.int IntKind.i64 (↑g : Int))) = some (SV.c (Value.int IntKind.i64 (↑g : Int))) ∧
  some (SV.c (Value.int IntKind.u32 (IntKind.u32.wrap ((4294967295 : Int) - s)))) = some (SV.c (Value.int IntKind.u32 (IntKind.u32.wrap ((4294967295 : Int) - s)))) ∧
  some (SV.c (Value.int IntKind.u32 s)) = some (SV.c (Value.int IntKind.u32 s)) ∧ some (SV.c (Value.int IntKind.u32 (0 : Int))) = some (SV.c (Value.int IntKind.u32 (0 : Int))) ∧
  some (SV.c (Value.int IntKind.u32 s)) = some (SV.c (Value.int IntKind.u32 s)) ∧ some (SV.a (0 : Nat)) = some (SV.a (0 : Nat)) ∧ True) ∧ some (R.ro (D.ints IntKind.u8 b)) = some (R.ro (D.ints IntKind.u8 b)) ∧
  True) (True ∧ ∃ (g' : Nat), g' ≤ (8 : Nat) ∧ (8 : Nat) - g' < (8 : Nat) - g_1 ∧ (IntKind.i64.wrap ((↑g_1 : Int) + (1 : Int)) = (↑g' : Int) ∧ (iv (ckR (crcR (~~~bv s) (List.take p b)) (b.getD p (0 : Int)) g_1)).fdiv ((2 : Int) ^ min (Int.toNat (1 : Int)) IntKind.u32.bits) = iv (ckR (crcR (~~~bv s) (List.take p b)) (b.getD p (0 : Int)) g') ∧
  (true && true && true) = true) ∧ (some (SV.c (Value.bool (decide ((↑g : Int) < (↑b.length : Int))))) = some (SV.c (Value.bool (decide ((↑g : Int) < (↑b.length : Int))))) ∧
  some (SV.c (Value.int IntKind.i64 (↑b.length : Int))) = some (SV.c (Value.int IntKind.i64 (↑b.length : Int))) ∧ some (SV.a (0 : Nat)) = some (SV.a (0 : Nat)) ∧
  some (SV.c (Value.int IntKind.i64 (↑g : Int))) = some (SV.c (Value.int IntKind.i64 (↑g : Int))) ∧ some (SV.c (Value.int IntKind.i64 (↑g : Int))) = some (SV.c (Value.int IntKind.i64 (↑g : Int))) ∧
  some (SV.c (Value.int IntKind.u32 (IntKind.u32.wrap ((4294967295 : Int) - s)))) = some (SV.c (Value.int IntKind.u32 (IntKind.u32.wrap ((4294967295 : Int) - s)))) ∧
  some (SV.c (Value.int IntKind.u32 s)) = some (SV.c (Value.int IntKind.u32 s)) ∧ some (SV.c (Value.int IntKind.u32 (0 : Int))) = some (SV.c (Value.int IntKind.u32 (0 : Int))) ∧
  some (SV.c (Value.int IntKind.u32 s)) = some (SV.c (Value.int IntKind.u32 s)) ∧ some (SV.a (0 : Nat)) = some (SV.a (0 : Nat)) ∧ True) ∧ some (R.ro (D.ints IntKind.u8 b)) = some (R.ro (D.ints IntKind.u8 b)) ∧
  True)) (True ∧ ∃ (g' : Nat), g' ≤ b.length ∧ b.length - g' < b.length - g ∧ (IntKind.i64.wrap ((↑g : Int) + (1 : Int)) = (↑g' : Int) ∧ iv (ckR (crcR (~~~bv s) (List.take p b)) (b.getD p (0 : Int)) g_1) = iv (crcR (~~~bv s) (List.take g' b)) ∧
  (true && true && true) = true) ∧ (some (SV.c (Value.int IntKind.u32 (IntKind.u32.wrap ((4294967295 : Int) - s)))) = some (SV.c (Value.int IntKind.u32 (IntKind.u32.wrap ((4294967295 : Int) - s)))) ∧
  some (SV.c (Value.int IntKind.u32 s)) = some (SV.c (Value.int IntKind.u32 s)) ∧ some (SV.c (Value.int IntKind.u32 (0 : Int))) = some (SV.c (Value.int IntKind.u32 (0 : Int))) ∧
  some (SV.c (Value.int IntKind.u32 s)) = some (SV.c (Value.int IntKind.u32 s)) ∧ some (SV.a (0 : Nat)) = some (SV.a (0 : Nat)) ∧ True) ∧ some (R.ro (D.ints IntKind.u8 b)) = some (R.ro (D.ints IntKind.u8 b)) ∧
  True)) (True ∧ IntKind.u32.wrap ((4294967295 : Int) - iv (crcR (~~~bv s) (List.take g b))) = moreF s b ∧ (true && true) = true) := by
  simp only [↓sw_iff, ↓Bool.and_eq_true, ↓decide_eq_true_eq, ↓decide_eq_false_iff_not, true_and, and_true, Int.toNat_natCast, shr1]
  intro s b hs h hb
  unfold sm at h
  refine ⟨0, by omega, rfl, by rw [sub_not hs]; rfl, fun g hg => ⟨fun hl => ?_, fun hl => ?_⟩⟩
  · obtain ⟨x0, x1⟩ := okB_getD hb g
    refine ⟨g, 0, by omega, rfl, by rw [ckR_zero], fun k hk => ⟨fun h' => ?_, fun h' => ?_⟩⟩
    · rw [shrk x0 x1 (by omega), xor_iv, and_one]
      have e := ckR_succ (crcR (~~~bv s) (List.take g b)) (b.getD g 0) k
      have w : IntKind.u64.wrap (k : Int) = k := by rw [IntKind.wrap_u64]; omega
      have w2 : IntKind.i64.wrap ((k : Int) + 1) = ((k + 1 : Nat) : Int) := by rw [wrap_i64_id (by omega) (by omega)]; omega
      refine ⟨⟨by omega, by omega⟩, by omega, by omega, fun q => ⟨k + 1, by omega, by omega, w2, ?_⟩, fun q => ⟨k + 1, by omega, by omega, w2, ?_⟩⟩
      · rw [e, ← iv_poly, xor_iv]
        cases hb : (bv (b.getD g 0) >>> k ^^^ ckR (crcR (~~~bv s) (List.take g b)) (b.getD g 0) k).getLsbD 0 with
        | true => rw [if_pos rfl]
        | false => rw [hb] at q; simp at q
      · rw [e]
        cases hb : (bv (b.getD g 0) >>> k ^^^ ckR (crcR (~~~bv s) (List.take g b)) (b.getD g 0) k).getLsbD 0 with
        | true => rw [hb] at q; simp at q
        | false => simp
    · have : k = 8 := by omega
      subst this
      refine ⟨g + 1, by omega, by omega, by rw [wrap_i64_id (by omega) (by omega)]; omega, ?_⟩
      rw [ckR_end _ x0 x1, crcR_take (by omega)]
  · have : g = b.length := by omega
    subst this
    rw [List.take_of_length_le (Nat.le_refl _), iv_sub]
    rfl
set_option maxRecDepth 100000 in
theorem ok37 : FnIs Tryd.prog 37 moreC := by
  refine fnIs (C := (ctrs c0)) (by kernel_rfl) c0_ok Tryd.func37 (code := code37) (by kernel_rfl) (by kernel_rfl) ?_
  rintro a ⟨s, b, rfl, hs, h, hb⟩
  exact ⟨anns [(3, moreAnn 6 5 (~~~ bv s) b), (6, bitAnn 7 5 (~~~ bv s) b)], kcast (vc37 s b hs h hb) (by kernel_rfl)⟩

theorem k3_ok : COk Tryd.prog (ctrs k3) := cok_cons ok37 cok_nil

noncomputable def code33 : Code := match Tryd.f33.body with | some c => c | none => .skip
set_option maxHeartbeats 4000000 in
theorem vc33 : ∀ (b : List Int), sm b.length → okB b → (∃ (s : Int), ∃ (b_1 : List Int), [O.d (D.v (Value.int IntKind.u32 (0 : Int))), O.d (D.ints IntKind.u8 b)] = [O.d (D.v (Value.int IntKind.u32 s)), O.d (D.ints IntKind.u8 b_1)] ∧
  ((0 : Int) ≤ s ∧ s ≤ (4294967295 : Int)) ∧ sm b_1.length ∧ okB b_1) ∧ moreF (0 : Int) b = sumF b ∧ (true && true) = true := by
  simp only [↓Bool.and_eq_true, and_true]
  intro b h hb
  exact ⟨⟨0, b, rfl, by omega, h, hb⟩, rfl⟩
set_option maxRecDepth 100000 in
theorem ok33 : FnIs Tryd.prog 33 csumC := by
  refine fnIs (C := (ctrs k2)) (by kernel_rfl) k2_ok Tryd.func33 (code := code33) (by kernel_rfl) (by kernel_rfl) ?_
  rintro a ⟨b, rfl, h, hb⟩
  exact ⟨anns [], kcast (vc33 b h hb) (by kernel_rfl)⟩

noncomputable def code21 : Code := match Tryd.f21.body with | some c => c | none => .skip
set_option maxHeartbeats 4000000 in
theorem vc21 : ∀ (b : List Int), sm b.length → okB b → (∃ (s : Int), ∃ (b_1 : List Int), [O.d (D.v (Value.int IntKind.u32 (0 : Int))), O.d (D.ints IntKind.u8 b)] = [O.d (D.v (Value.int IntKind.u32 s)), O.d (D.ints IntKind.u8 b_1)] ∧
  ((0 : Int) ≤ s ∧ s ≤ (4294967295 : Int)) ∧ sm b_1.length ∧ okB b_1) ∧ moreF (0 : Int) b = sumF b ∧ (true && true) = true := by
  simp only [↓Bool.and_eq_true, and_true]
  intro b h hb
  exact ⟨⟨0, b, rfl, by omega, h, hb⟩, rfl⟩
set_option maxRecDepth 100000 in
theorem ok21 : FnIs Tryd.prog 21 csumC := by
  refine fnIs (C := (ctrs k3)) (by kernel_rfl) k3_ok Tryd.func21 (code := code21) (by kernel_rfl) (by kernel_rfl) ?_
  rintro a ⟨b, rfl, h, hb⟩
  exact ⟨anns [], kcast (vc21 b h hb) (by kernel_rfl)⟩

end Go.ZR

/- What steps do to each bit of a register: matrices; the lowest bit that is set. -/
set_option maxRecDepth 100000
namespace Go.ZM
open Go.Z Go.ZR

def deTab : List Int := [0, 1, 28, 2, 29, 14, 24, 3, 30, 22, 20, 15, 25, 17, 4, 8, 31, 27, 13, 23, 21, 19, 16, 7, 26, 12, 18, 6, 11, 5, 10, 9]
/-- The first n bits' columns, where they are set. -/
def colR (m : Nat → BitVec 32) (c : BitVec 32) : Nat → BitVec 32
  | 0 => 0#32
  | n + 1 => colR m c n ^^^ (if c.getLsbD n then m n else 0#32)
def mR (m : List Int) (k : Nat) : BitVec 32 := bv (m.getD k 0)
def ofF (m : List Int) (c : Int) : Int := iv (colR (mR m) (bv c) 32)
def twF (m : List Int) : List Int := m.map fun x => ofF m x
/-- The lowest bit that is set. -/
def lowR (c : BitVec 32) (k : Nat) : Prop := c.getLsbD k = true ∧ ∀ j, j < k → c.getLsbD j = false
def tzF (n : Int) : Int := if n = 0 then 32 else (((List.range 32).find? fun k => (bv n).getLsbD k).getD 32 : Nat)

theorem low_ex {c : BitVec 32} (h : c ≠ 0#32) : ∃ k, k < 32 ∧ lowR c k ∧ (List.range 32).find? (fun k => c.getLsbD k) = some k := by
  cases hf : (List.range 32).find? (fun k => c.getLsbD k) with
  | none =>
    exfalso
    apply h
    apply BitVec.eq_of_getLsbD_eq
    intro i hi
    rw [List.find?_eq_none] at hf
    have := hf i (List.mem_range.2 hi)
    simpa using this
  | some k =>
    have h1 := List.find?_some hf
    have h2 := List.mem_range.1 (List.mem_of_find?_eq_some hf)
    refine ⟨k, h2, ⟨h1, fun j hj => ?_⟩, rfl⟩
    rw [List.find?_range_eq_some] at hf
    have := hf.2.2 j hj
    simpa using this
theorem tz_low {n : Int} (h0 : 0 ≤ n) (h1 : n ≤ 4294967295) (hn : n ≠ 0) : ∃ k : Nat, k < 32 ∧ lowR (bv n) k ∧ tzF n = (k : Int) := by
  have hc : bv n ≠ 0#32 := fun e => hn (by
    have := iv_bv h0 h1
    rw [e] at this
    exact this.symm)
  obtain ⟨k, a, b, c⟩ := low_ex hc
  refine ⟨k, a, b, ?_⟩
  unfold tzF
  rw [if_neg hn, c]; rfl
theorem low_uniq {c : BitVec 32} {k i : Nat} (h : lowR c k) (_hi : i < 32) : (∃ j < i, c.getLsbD j = true) ↔ k < i := by
  constructor
  · rintro ⟨j, hj, hc⟩
    rcases Nat.lt_or_ge j k with h1 | h1
    · rw [h.2 j h1] at hc; cases hc
    · omega
  · intro hk; exact ⟨k, hk, h.1⟩
theorem low_and_neg {c : BitVec 32} {k : Nat} (h : lowR c k) (hk : k < 32) : c &&& -c = BitVec.twoPow 32 k := by
  apply BitVec.eq_of_getLsbD_eq
  intro i hi
  rw [BitVec.getLsbD_and, BitVec.getLsbD_neg, BitVec.getLsbD_twoPow]
  simp only [low_uniq h hi, hi, decide_true, Bool.true_and]
  rcases Nat.lt_trichotomy i k with e | e | e
  · rw [h.2 i e]; simp; omega
  · subst e; rw [h.1]; simp [hi]
  · cases c.getLsbD i <;> simp [show k < i from e] <;> omega
theorem low_and_sub {c : BitVec 32} {k : Nat} (h : lowR c k) (i : Nat) (hi : i < 32) : (c &&& (c - 1#32)).getLsbD i = (c.getLsbD i && decide (k ≠ i)) := by
  have e : c - 1#32 = ~~~ (-c) := by
    rw [BitVec.not_neg, BitVec.sub_eq_add_neg]
  rw [e, BitVec.getLsbD_and, BitVec.getLsbD_not, BitVec.getLsbD_neg]
  simp only [low_uniq h hi, hi, decide_true, Bool.true_and]
  rcases Nat.lt_trichotomy i k with e | e | e
  · rw [h.2 i e]; simp
  · subst e; rw [h.1]; simp
  · cases c.getLsbD i <;> simp [show k < i from e] <;> omega
theorem col_clear (m : Nat → BitVec 32) {c d : BitVec 32} {k : Nat} (hk : c.getLsbD k = true) (hd : ∀ i, i < 32 → d.getLsbD i = (c.getLsbD i && decide (k ≠ i))) :
    ∀ n, n ≤ 32 → colR m c n = colR m d n ^^^ (if k < n then m k else 0#32)
  | 0, _ => by simp [colR]
  | n + 1, hn => by
    rw [colR, colR, col_clear m hk hd n (by omega), hd n (by omega)]
    rcases Nat.lt_trichotomy k n with e | e | e
    · have e' : k ≠ n := by omega
      simp only [e, show k < n + 1 by omega, if_true, e', ne_eq, not_false_eq_true, decide_true, Bool.and_true]
      rw [BitVec.xor_assoc, BitVec.xor_comm (m k), ← BitVec.xor_assoc]
    · subst e
      simp [hk]
    · have e' : k ≠ n := by omega
      simp only [show ¬ k < n by omega, show ¬ k < n + 1 by omega, if_false, e', ne_eq, not_false_eq_true, decide_true, Bool.and_true, BitVec.xor_zero]
theorem col_step (m : Nat → BitVec 32) {c : BitVec 32} {k : Nat} (h : lowR c k) (hk : k < 32) : colR m c 32 = colR m (c &&& (c - 1#32)) 32 ^^^ m k := by
  have := col_clear m h.1 (low_and_sub h) 32 (Nat.le_refl _)
  rw [this, if_pos hk]
theorem and_sub_lt {c : BitVec 32} {k : Nat} (h : lowR c k) (hk : k < 32) : (c &&& (c - 1#32)).toNat < c.toNat := by
  have hle : (c &&& (c - 1#32)).toNat ≤ c.toNat := by rw [BitVec.toNat_and]; exact Nat.and_le_left
  rcases Nat.lt_or_ge (c &&& (c - 1#32)).toNat c.toNat with h1 | h1
  · exact h1
  · exfalso
    have e : c &&& (c - 1#32) = c := BitVec.eq_of_toNat_eq (by omega)
    have := low_and_sub h k hk
    rw [e, h.1] at this
    simp at this

/-! Matrices of maps that keep sums -/
def lin (f : BitVec 32 → BitVec 32) : Prop := ∀ a b, f (a ^^^ b) = f a ^^^ f b
def isM (m : List Int) (f : BitVec 32 → BitVec 32) : Prop := m.length = 32 ∧ ∀ k, k < 32 → m.getD k 0 = iv (f (BitVec.twoPow 32 k))
theorem lin_zero {f : BitVec 32 → BitVec 32} (h : lin f) : f 0#32 = 0#32 := by
  have := h 0#32 0#32
  simpa using this
theorem low_part (c : BitVec 32) (n : Nat) (hn : n < 32) : (c.setWidth n).setWidth 32 ^^^ (if c.getLsbD n then BitVec.twoPow 32 n else 0#32) = (c.setWidth (n + 1)).setWidth 32 := by
  apply BitVec.eq_of_getLsbD_eq
  intro i hi
  rw [BitVec.getLsbD_xor, BitVec.getLsbD_setWidth, BitVec.getLsbD_setWidth, BitVec.getLsbD_setWidth, BitVec.getLsbD_setWidth]
  rcases Nat.lt_trichotomy i n with e | e | e
  · cases c.getLsbD n <;> simp [BitVec.getLsbD_twoPow, e, show i < n + 1 by omega, show ¬ n = i by omega]
  · subst e
    cases h : c.getLsbD i <;> simp [hi]
  · cases c.getLsbD n <;> simp [BitVec.getLsbD_twoPow, show ¬ i < n by omega, show ¬ i < n + 1 by omega, show ¬ n = i by omega]
theorem col_lin {m : List Int} {f : BitVec 32 → BitVec 32} (hm : isM m f) (hf : lin f) (c : BitVec 32) : ∀ n, n ≤ 32 → colR (mR m) c n = f ((c.setWidth n).setWidth 32)
  | 0, _ => by
    have : (c.setWidth 0).setWidth 32 = 0#32 := by
      apply BitVec.eq_of_getLsbD_eq; intro i hi; simp
    rw [this, lin_zero hf]; rfl
  | n + 1, hn => by
    rw [colR, col_lin hm hf c n (by omega), ← low_part c n (by omega), hf]
    congr 1
    cases c.getLsbD n with
    | true => simp only [if_true]; unfold mR; rw [hm.2 n (by omega), bv_iv]
    | false => simp [lin_zero hf]
theorem ofF_lin {m : List Int} {f : BitVec 32 → BitVec 32} (hm : isM m f) (hf : lin f) (c : Int) : ofF m c = iv (f (bv c)) := by
  unfold ofF
  rw [col_lin hm hf _ 32 (Nat.le_refl _)]
  simp
theorem twF_lin {m : List Int} {f : BitVec 32 → BitVec 32} (hm : isM m f) (hf : lin f) : isM (twF m) (fun c => f (f c)) := by
  refine ⟨by unfold twF; simp [hm.1], fun k hk => ?_⟩
  have hl : k < m.length := by rw [hm.1]; exact hk
  have : (twF m).getD k 0 = ofF m (m.getD k 0) := by
    unfold twF
    simp [List.getD, List.getElem?_eq_getElem hl]
  rw [this, ofF_lin hm hf, hm.2 k hk, bv_iv]
theorem lin_sN (n : Nat) : lin (sN n) := fun a b => sN_xor a b n
theorem isM_congr {m : List Int} {f g : BitVec 32 → BitVec 32} (h : isM m f) (e : ∀ c, f c = g c) : isM m g := ⟨h.1, fun k hk => by rw [h.2 k hk, e]⟩
def baseM : List Int := 2197175160 :: (List.range 31).map fun k => ((2 ^ k : Nat) : Int)
theorem base_ok : isM baseM (sN 1) := by
  refine ⟨rfl, ?_⟩
  have : ∀ k : Fin 32, baseM.getD k 0 = iv (sN 1 (BitVec.twoPow 32 k)) := by decide +kernel
  exact fun k hk => this ⟨k, hk⟩
theorem tw_ok : isM (twF (twF (twF (twF (twF baseM))))) (sN 32) := by
  have h1 := isM_congr (twF_lin base_ok (lin_sN 1)) (g := sN 2) (fun c => (sN_add 1 1 c).symm)
  have h2 := isM_congr (twF_lin h1 (lin_sN 2)) (g := sN 4) (fun c => (sN_add 2 2 c).symm)
  have h3 := isM_congr (twF_lin h2 (lin_sN 4)) (g := sN 8) (fun c => (sN_add 4 4 c).symm)
  have h4 := isM_congr (twF_lin h3 (lin_sN 8)) (g := sN 16) (fun c => (sN_add 8 8 c).symm)
  exact isM_congr (twF_lin h4 (lin_sN 16)) (g := sN 32) (fun c => (sN_add 16 16 c).symm)
theorem zeros_four (c : BitVec 32) : crcR c [0, 0, 0, 0] = sN 32 c := by
  have z : ∀ d, byteR d 0 = sN 8 d := fun d => by
    unfold byteR
    rw [show bv 0 = 0#32 from rfl, BitVec.xor_zero]
  show byteR (byteR (byteR (byteR c 0) 0) 0) 0 = _
  rw [z, z, z, z, ← sN_add, ← sN_add, ← sN_add]
/-- The sum with four bytes 0 behind it. -/
theorem zeros_more {s : Int} (_h0 : 0 ≤ s) (_h1 : s ≤ 4294967295) : iv (~~~ bv (ofF (twF (twF (twF (twF (twF baseM))))) (iv (~~~ bv s)))) = moreF s [0, 0, 0, 0] := by
  rw [ofF_lin tw_ok (lin_sN 32), bv_iv, bv_iv]
  unfold moreF
  rw [zeros_four]
end Go.ZM

/- Matrices, sums of packets: contracts. -/
set_option maxRecDepth 100000
namespace Go.ZM
open Go.Z Go.ZR
def okM (m : List Int) : Prop := m.length = 32 ∧ ∀ x, x ∈ m → 0 ≤ x ∧ x ≤ 4294967295
def rg (n : Int) : Prop := 0 ≤ n ∧ n ≤ 4294967295
/-- The sum of a packet's bytes, as it stands in them. -/
def pkSum (b : List Int) : Int := moreF (moreF (sumF (b.take 8)) [0, 0, 0, 0]) (b.drop 12)
def pkB (b : List Int) : List Int := (be (pkSum b) 4).reverse
end Go.ZM
namespace Go.ZR
open Go.Z Go.ZM Go.Proofs
def deG : List (Nat × Nat × IntKind × List Int) := [(0, 80, .u8, deTab)]
/-- As nC; package variables are read. -/
def gC (n : Nat) (quiet : Bool) (pre : List O → Prop) (res : List O → List O) : Ctr where
  own := []
  pre := pre
  res := res
  upd := fun _ => List.replicate n .any
  ro := false
  quiet := quiet
  gl := deG
def arrOf' : O → List Int
  | .arr _ _ xs => xs
  | _ => []
def mO (m : List Int) : O := .arr 74 .u32 m
def tzC : Ctr := gC 1 true (fun a => ∃ n, a = [iO .u32 n] ∧ rg n) fun a => [iO .i64 (tzF (vi (dO (at_ a 0))))]
def ofC : Ctr where
  own := [true, false]
  pre := fun a => ∃ m n, a = [mO m, iO .u32 n] ∧ okM m ∧ rg n
  res := fun a => [iO .u32 (ofF (arrOf' (at_ a 0)) (vi (dO (at_ a 1))))]
  upd := fun a => [mO (arrOf' (at_ a 0)), .any]
  ro := false
  quiet := false
  gl := deG
def twC : Ctr where
  own := [true]
  pre := fun a => ∃ m, a = [mO m] ∧ okM m
  res := fun a => [mO (twF (arrOf' (at_ a 0)))]
  upd := fun a => [mO (arrOf' (at_ a 0))]
  ro := false
  quiet := false
  gl := deG
def zerosC : Ctr := gC 2 false (fun a => ∃ s, a = [iO .u32 s, iO .i64 4] ∧ rg s) fun a => [iO .u32 (moreF (vi (dO (at_ a 0))) [0, 0, 0, 0])]
def ownL : O → List Int
  | .own _ (.ints _ l) => l
  | _ => []
def revC : Ctr where
  own := [true]
  pre := fun a => ∃ x0 x1 x2 x3, a = [bsN [x0, x1, x2, x3]]
  res := fun _ => []
  upd := fun a => [bsN (ownL (at_ a 0)).reverse]
  ro := false
  quiet := false
def pksC : Ctr := gC 1 false (fun a => ∃ b, a = [bsO b] ∧ 12 ≤ b.length ∧ sm b.length ∧ okB b) fun a => [bsN (pkB (vl (dO (at_ a 0))))]
def ofAnn (s t : Nat) (m : List Int) (c : Int) : LoopAnn where
  γ := Int × Int
  pre := fun g => rg g.1 ∧ rg g.2 ∧ bv g.1 ^^^ colR (mR m) (bv g.2) 32 = colR (mR m) (bv c) 32
  μ := fun g => g.2.toNat
  items := fun g => [(s, .c (iO .u32 g.1)), (t, .c (iO .u32 g.2))]
def twAnn (s t : Nat) (m : List Int) : LoopAnn where
  γ := Nat
  pre := fun i => i ≤ 32
  μ := fun i => 32 - i
  items := fun i => [(s, .c (iO .i64 (i : Int))), (t, .c (mO ((twF m).take i ++ List.replicate (32 - i) 0)))]
def baseAnn (s t : Nat) : LoopAnn where
  γ := Nat
  pre := fun i => 1 ≤ i ∧ i ≤ 32
  μ := fun i => 32 - i
  items := fun i => [(s, .c (iO .i64 (i : Int))), (t, .c (mO (baseM.take i ++ List.replicate (32 - i) 0)))]
def p1 : List (Nat × Ctr) := [(50, tzC)]
def p2 : List (Nat × Ctr) := [(46, ofC)]
def p3 : List (Nat × Ctr) := [(46, ofC), (45, twC)]
def p4 : List (Nat × Ctr) := [(33, csumC), (32, zerosC), (31, moreC), (16, putC), (34, revC)]
end Go.ZR

/- Matrices, sums of packets: walked. -/
namespace Go.ZR
open Go.Proofs
open Go.Z Go.ZM Go.RowKit
set_option maxRecDepth 100000
theorem size74 : Tryd.prog.types[(74 : Nat)].size = 32 := by kernel_rfl
theorem size80 : Tryd.prog.types[(80 : Nat)].size = 32 := by kernel_rfl
theorem de_get : ∀ k : Fin 32, (0 ≤ (IntKind.u32.wrap (((2 ^ (k : Nat) : Nat) : Int) * 125613361)).fdiv (2 ^ min (Int.toNat 27) IntKind.u32.bits) ∧ (IntKind.u32.wrap (((2 ^ (k : Nat) : Nat) : Int) * 125613361)).fdiv (2 ^ min (Int.toNat 27) IntKind.u32.bits) < 32) ∧
    deTab.getD ((IntKind.u32.wrap (((2 ^ (k : Nat) : Nat) : Int) * 125613361)).fdiv (2 ^ min (Int.toNat 27) IntKind.u32.bits)).toNat 0 = (k : Nat) := by decide +kernel
theorem neg_iv (c : BitVec 32) : IntKind.u32.wrap (0 - iv c) = iv (-c) := by
  unfold iv
  rw [IntKind.wrap_u32, BitVec.toNat_neg]
  have := c.isLt
  omega
theorem sub_iv (c : BitVec 32) : IntKind.u32.wrap (iv c - 1) = iv (c - 1#32) := by
  unfold iv
  rw [IntKind.wrap_u32, BitVec.toNat_sub]
  have := c.isLt
  have : (1#32).toNat = 1 := rfl
  omega
theorem iv_two {k : Nat} (h : k < 32) : iv (BitVec.twoPow 32 k) = ((2 ^ k : Nat) : Int) := by
  unfold iv
  rw [BitVec.toNat_twoPow, Nat.mod_eq_of_lt (Nat.pow_lt_pow_right (by decide) h)]
theorem okM_tw {m : List Int} (h : okM m) : okM (twF m) := by
  refine ⟨by unfold twF; simp [h.1], fun x hx => ?_⟩
  unfold twF at hx
  obtain ⟨y, _, rfl⟩ := List.mem_map.1 hx
  exact iv_rng _
theorem okM_get {m : List Int} (h : okM m) (k : Nat) : rg (m.getD k 0) := by
  by_cases hk : k < m.length
  · rw [show m.getD k 0 = m[k] by simp [List.getD, List.getElem?_eq_getElem hk]]
    exact h.2 _ (List.getElem_mem hk)
  · rw [show m.getD k 0 = 0 by simp [List.getD, List.getElem?_eq_none (by omega : m.length ≤ k)]]
    unfold rg; omega
theorem colR_zero (m : Nat → BitVec 32) : ∀ n, colR m 0#32 n = 0#32
  | 0 => rfl
  | n + 1 => by rw [colR, colR_zero m n]; simp
theorem getD_take_rep (l : List Int) {i : Nat} (_hi : i ≤ l.length) (n : Nat) (x : Int) (hn : i + n = l.length) (hil : i < l.length) (hx : l.getD i 0 = x) : (l.take i ++ List.replicate n 0).set i x = l.take (i + 1) ++ List.replicate (n - 1) 0 := by
  apply List.ext_getElem
  · simp; omega
  intro j h1 h2
  rw [List.getElem_set]
  simp only [List.length_set, List.length_append, List.length_take, List.length_replicate] at h1
  by_cases e : i = j
  · subst e
    rw [if_pos rfl, List.getElem_append_left (by simp; omega), List.getElem_take, ← hx]
    simp [List.getD, List.getElem?_eq_getElem hil]
  · rw [if_neg e]
    by_cases l1 : j < i
    · rw [List.getElem_append_left (by simp; omega), List.getElem_append_left (by simp; omega), List.getElem_take, List.getElem_take]
    · rw [List.getElem_append_right (by simp; omega), List.getElem_append_right (by simp; omega), List.getElem_replicate, List.getElem_replicate]
theorem base_okM : okM baseM := by
  refine ⟨rfl, ?_⟩
  have : ∀ k : Fin 32, 0 ≤ baseM.getD k 0 ∧ baseM.getD k 0 ≤ 4294967295 := by decide +kernel
  intro x hx
  obtain ⟨k, hk, rfl⟩ := List.getElem_of_mem hx
  have := this ⟨k, hk⟩
  simpa [List.getD, List.getElem?_eq_getElem hk] using this
theorem base_set : ∀ g : Fin 32, 1 ≤ (g : Nat) → baseM.getD g 0 = IntKind.u32.wrap (1 * 2 ^ min (IntKind.i64.wrap (((g : Nat) : Int) - 1)).toNat IntKind.u32.bits) := by decide +kernel
theorem more_rng (s : Int) (l : List Int) : rg (moreF s l) := iv_rng _
theorem wrap_more (s : Int) (l : List Int) : IntKind.u64.wrap (moreF s l) = moreF s l := by
  have := more_rng s l
  unfold rg at this
  rw [IntKind.wrap_u64]; omega
noncomputable def code50 : Code := match Tryd.f50.body with | some c => c | none => .skip
set_option maxHeartbeats 4000000 in
theorem vc50 : ∀ (n : Int), rg n → True ∧ sw (decide (n = (0 : Int))) ((32 : Int) = tzF n ∧ (true && true) = true) (True ∧ True ∧ (0 : Int) ≤ (27 : Int) ∧ ((0 : Int) ≤ (IntKind.u32.wrap (bits BinOp.and IntKind.u32 n (IntKind.u32.wrap ((0 : Int) - n)) * (125613361 : Int))).fdiv ((2 : Int) ^ min (Int.toNat (27 : Int)) IntKind.u32.bits) ∧
  (IntKind.u32.wrap (bits BinOp.and IntKind.u32 n (IntKind.u32.wrap ((0 : Int) - n)) * (125613361 : Int))).fdiv ((2 : Int) ^ min (Int.toNat (27 : Int)) IntKind.u32.bits) < (↑(32 : Nat) : Int) ∧
  (32 : Nat) = (32 : Nat)) ∧ IntKind.i64.wrap (deTab.getD ((IntKind.u32.wrap (bits BinOp.and IntKind.u32 n (IntKind.u32.wrap ((0 : Int) - n)) * (125613361 : Int))).fdiv ((2 : Int) ^ min (Int.toNat (27 : Int)) IntKind.u32.bits)).toNat (0 : Int)) = tzF n ∧
  (true && true) = true) := by
  simp only [↓sw_iff, ↓Bool.and_eq_true, ↓decide_eq_true_eq, ↓decide_eq_false_iff_not, true_and, and_true]
  intro n hn
  unfold rg at hn
  refine ⟨fun h => by unfold tzF; rw [if_pos h], fun h => ?_⟩
  obtain ⟨k, hk, hl, ht⟩ := tz_low hn.1 hn.2 h
  have e : bits .and .u32 n (IntKind.u32.wrap (0 - n)) = ((2 ^ k : Nat) : Int) := by
    have h1 := neg_iv (bv n)
    have h2 := and_iv (bv n) (-(bv n))
    rw [iv_bv hn.1 hn.2] at h1 h2
    rw [h1, h2, low_and_neg hl hk, iv_two hk]
  obtain ⟨⟨d1, d2⟩, d3⟩ := de_get ⟨k, hk⟩
  simp only at d1 d2 d3
  rw [e, ht, d3, wrap_i64_id (by omega) (by omega)]
  exact ⟨by omega, ⟨d1, by omega⟩, rfl⟩
set_option maxRecDepth 100000 in
theorem ok50 : FnIs Tryd.prog 50 tzC := by
  refine fnIs (C := (ctrs c0)) (by kernel_rfl) c0_ok Tryd.func50 (code := code50) (by kernel_rfl) (by kernel_rfl) ?_
  rintro a ⟨n, rfl, hn⟩
  exact ⟨anns [], kcast (vc50 n hn) (by kernel_rfl)⟩

theorem p1_ok : COk Tryd.prog (ctrs p1) := cok_cons ok50 cok_nil

noncomputable def code46 : Code := match Tryd.f46.body with | some c => c | none => .skip
set_option maxHeartbeats 4000000 in
theorem vc46 : ∀ (m : List Int) (n : Int), okM m → rg n → ∃ (g0 : Int × Int), (rg g0.fst ∧ rg g0.snd ∧ bv g0.fst ^^^ colR (mR m) (bv g0.snd) (32 : Nat) = colR (mR m) (bv n) (32 : Nat)) ∧
  (0 : Int) = g0.fst ∧ n = g0.snd ∧ (true && true) = true ∧ ∀ (g : Int × Int), rg g.fst ∧ rg g.snd ∧ bv g.fst ^^^ colR (mR m) (bv g.snd) (32 : Nat) = colR (mR m) (bv n) (32 : Nat) →
  True ∧ sw (!decide (g.snd = (0 : Int))) ((((80 : Nat) = (80 : Nat) ∧ IntKind.u8 = IntKind.u8 ∧ deTab = deTab) ∧ True) ∧ (∃ (n_1 : Int), [O.d (D.v (Value.int IntKind.u32 g.snd))] = [O.d (D.v (Value.int IntKind.u32 n_1))] ∧
  rg n_1) ∧ ((0 : Int) ≤ tzF g.snd ∧ tzF g.snd < (↑(32 : Nat) : Int) ∧ (32 : Nat) = m.length) ∧ True ∧ True ∧ True ∧ ∃ (g' : Int × Int), (rg g'.fst ∧ rg g'.snd ∧
  bv g'.fst ^^^ colR (mR m) (bv g'.snd) (32 : Nat) = colR (mR m) (bv n) (32 : Nat)) ∧ g'.snd.toNat < g.snd.toNat ∧ (bits BinOp.xor IntKind.u32 g.fst (m.getD (tzF g.snd).toNat (0 : Int)) = g'.fst ∧
  bits BinOp.and IntKind.u32 g.snd (IntKind.u32.wrap (g.snd - (1 : Int))) = g'.snd ∧ (true && true && true) = true) ∧ (some (SV.q (1 : Nat)) = some (SV.q (1 : Nat)) ∧
  True) ∧ some (R.own (74 : Nat) (D.ints IntKind.u32 m)) = some (R.own (74 : Nat) (D.ints IntKind.u32 m)) ∧ some (R.gl (0 : Nat) (80 : Nat) IntKind.u8 deTab) = some (R.gl (0 : Nat) (80 : Nat) IntKind.u8 deTab) ∧
  True) (m = m ∧ g.fst = ofF m n ∧ (!false && true && true) = true) := by
  simp only [↓sw_iff, ↓Bool.and_eq_true, ↓decide_eq_true_eq, ↓decide_eq_false_iff_not, ↓Bool.not_eq_true', ↓Bool.not_eq_false', true_and, and_true]
  intro m n hm hn
  refine ⟨(0, n), ⟨by unfold rg; omega, hn, by simp [show bv 0 = 0#32 from rfl]⟩, rfl, rfl, ?_⟩
  rintro ⟨a, c⟩ ⟨ha, hc, hi⟩
  simp only at ha hc hi ⊢
  refine ⟨fun h => ?_, fun h => ?_⟩
  · obtain ⟨k, hk, hl, ht⟩ := tz_low hc.1 hc.2 h
    have e1 : bits .and .u32 c (IntKind.u32.wrap (c - 1)) = iv (bv c &&& (bv c - 1#32)) := by
      have h1 := sub_iv (bv c)
      have h2 := and_iv (bv c) (bv c - 1#32)
      rw [iv_bv hc.1 hc.2] at h1 h2
      rw [h1, h2]
    have e2 : bits .xor .u32 a (m.getD k 0) = iv (bv a ^^^ mR m k) := by
      have h2 := xor_iv (bv a) (mR m k)
      have h3 := okM_get hm k
      unfold mR at h2 ⊢
      rw [iv_bv ha.1 ha.2, iv_bv h3.1 h3.2] at h2
      exact h2
    rw [ht, Int.toNat_natCast, e1, e2]
    refine ⟨⟨c, rfl, hc⟩, ⟨by omega, by omega, hm.1.symm⟩, (iv (bv a ^^^ mR m k), iv (bv c &&& (bv c - 1#32))), ⟨iv_rng _, iv_rng _, ?_⟩, ?_, rfl, rfl⟩
    · simp only
      rw [bv_iv, bv_iv, ← hi, col_step (mR m) hl hk, BitVec.xor_assoc, BitVec.xor_comm (mR m k)]
    · have := and_sub_lt hl hk
      have e3 := iv_bv hc.1 hc.2
      simp only
      unfold iv at e3 ⊢
      omega
  · have : c = 0 := by omega
    subst this
    rw [show bv 0 = 0#32 from rfl, colR_zero, BitVec.xor_zero] at hi
    unfold ofF
    rw [← hi, iv_bv ha.1 ha.2]
set_option maxRecDepth 100000 in
theorem ok46 : FnIs Tryd.prog 46 ofC := by
  refine fnIs (C := (ctrs p1)) (by kernel_rfl) p1_ok Tryd.func46 (code := code46) (by kernel_rfl) (by kernel_rfl) ?_
  rintro a ⟨m, n, rfl, hm, hn⟩
  exact ⟨anns [(1, ofAnn 4 1 m n)] (dr := []), kcast (vc46 m n hm hn) (by kernel_rfl)⟩

theorem p2_ok : COk Tryd.prog (ctrs p2) := cok_cons ok46 cok_nil

noncomputable def code45 : Code := match Tryd.f45.body with | some c => c | none => .skip
set_option maxHeartbeats 4000000 in
theorem vc45 : ∀ (m : List Int), okM m → ∃ (g0 : Nat), g0 ≤ (32 : Nat) ∧ (0 : Int) = (↑g0 : Int) ∧ List.replicate (32 : Nat) (0 : Int) = List.take g0 (twF m) ++ List.replicate ((32 : Nat) - g0) (0 : Int) ∧
  (!false && true && true) = true ∧ ∀ (g : Nat), g ≤ (32 : Nat) → True ∧ sw (decide ((↑g : Int) < (32 : Int))) (((0 : Int) ≤ (↑g : Int) ∧ (↑g : Int) < (↑(32 : Nat) : Int) ∧
  (32 : Nat) = m.length) ∧ (((80 : Nat) = (80 : Nat) ∧ IntKind.u8 = IntKind.u8 ∧ deTab = deTab) ∧ True) ∧ (∃ (m_1 : List Int), ∃ (n : Int), [O.arr (74 : Nat) IntKind.u32 m, O.d (D.v (Value.int IntKind.u32 (m.getD (↑g : Int).toNat (0 : Int))))] = [O.arr (74 : Nat) IntKind.u32 m_1, O.d (D.v (Value.int IntKind.u32 n))] ∧
  okM m_1 ∧ rg n) ∧ m.length = m.length ∧ ((0 : Int) ≤ (↑g : Int) ∧ (↑g : Int) < (↑(32 : Nat) : Int) ∧ (32 : Nat) = (List.take g (twF m) ++ List.replicate ((32 : Nat) - g) (0 : Int)).length) ∧
  IntKind.u32 = IntKind.u32 ∧ True ∧ ∃ (g' : Nat), g' ≤ (32 : Nat) ∧ (32 : Nat) - g' < (32 : Nat) - g ∧ (IntKind.i64.wrap ((↑g : Int) + (1 : Int)) = (↑g' : Int) ∧
  (List.take g (twF m) ++ List.replicate ((32 : Nat) - g) (0 : Int)).set (↑g : Int).toNat (ofF m (m.getD (↑g : Int).toNat (0 : Int))) = List.take g' (twF m) ++ List.replicate ((32 : Nat) - g') (0 : Int) ∧
  (!false && true && true && ((Nat.ble (3 : Nat) (3 : Nat) || (Nat.beq (2 : Nat) (3 : Nat) || false)) && true)) = true) ∧ (some (SV.c (Value.pointer none)) = some (SV.c (Value.pointer none)) ∧
  some (SV.q (1 : Nat)) = some (SV.q (1 : Nat)) ∧ True) ∧ some (R.own (74 : Nat) (D.ints IntKind.u32 m)) = some (R.own (74 : Nat) (D.ints IntKind.u32 m)) ∧
  some (R.gl (0 : Nat) (80 : Nat) IntKind.u8 deTab) = some (R.gl (0 : Nat) (80 : Nat) IntKind.u8 deTab) ∧ True) (m = m ∧ List.take g (twF m) ++ List.replicate ((32 : Nat) - g) (0 : Int) = twF m ∧
  (!(Nat.beq (3 : Nat) (1 : Nat) || false) && (!false && true) && true) = true) := by
  simp only [↓sw_iff, ↓Bool.and_eq_true, ↓decide_eq_true_eq, ↓decide_eq_false_iff_not, ↓Bool.not_eq_true', true_and, and_true, Bool.or_false, Nat.ble, Nat.beq, Int.toNat_natCast, List.length_append]
  intro m hm
  have hl : (twF m).length = 32 := (okM_tw hm).1
  refine ⟨0, by omega, rfl, by simp, fun g hg => ⟨fun h => ?_, fun h => ?_⟩⟩
  · have hlt : g < 32 := by omega
    have hx : (twF m).getD g 0 = ofF m (m.getD g 0) := by
      unfold twF
      simp [List.getD, List.getElem?_eq_getElem (show g < m.length by rw [hm.1]; exact hlt)]
    have hs := getD_take_rep (twF m) (i := g) (by omega) (32 - g) _ (by omega) (by omega) hx
    refine ⟨⟨by omega, by omega, hm.1.symm⟩, ⟨m, _, rfl, hm, okM_get hm g⟩, ⟨by omega, by omega, by simp; omega⟩, g + 1, by omega, by omega, by rw [wrap_i64_id (by omega) (by omega)]; omega, ?_⟩
    rw [hs]; rfl
  · have : g = 32 := by omega
    subst this
    rw [List.take_of_length_le (by omega)]; simp
set_option maxRecDepth 100000 in
theorem ok45 : FnIs Tryd.prog 45 twC := by
  refine fnIs (C := (ctrs p2)) (by kernel_rfl) p2_ok Tryd.func45 (code := code45) (by kernel_rfl) (by kernel_rfl) ?_
  rintro a ⟨m, rfl, hm⟩
  exact ⟨anns [(3, twAnn 5 3 m)] (dr := []), kcast (vc45 m hm) (by kernel_rfl)⟩

theorem p3_ok : COk Tryd.prog (ctrs p3) := cok_cons ok46 (cok_cons ok45 cok_nil)

noncomputable def code32 : Code := match Tryd.f32.body with | some c => c | none => .skip
set_option maxHeartbeats 4000000 in
theorem vc32 : ∀ (s : Int), rg s → ∃ (g0 : Nat), ((1 : Nat) ≤ g0 ∧ g0 ≤ (32 : Nat)) ∧ (1 : Int) = (↑g0 : Int) ∧ [(2197175160 : Int), (0 : Int), (0 : Int), (0 : Int), (0 : Int), (0 : Int), (0 : Int), (0 : Int), (0 : Int), (0 : Int), (0 : Int), (0 : Int), (0 : Int), (0 : Int), (0 : Int), (0 : Int), (0 : Int), (0 : Int), (0 : Int), (0 : Int), (0 : Int), (0 : Int), (0 : Int), (0 : Int), (0 : Int), (0 : Int), (0 : Int), (0 : Int), (0 : Int), (0 : Int), (0 : Int), (0 : Int)] = List.take g0 baseM ++ List.replicate ((32 : Nat) - g0) (0 : Int) ∧
  (!false && true && true) = true ∧ ∀ (g : Nat), (1 : Nat) ≤ g ∧ g ≤ (32 : Nat) → True ∧ sw (decide ((↑g : Int) < (32 : Int))) (True ∧ (0 : Int) ≤ IntKind.i64.wrap ((↑g : Int) - (1 : Int)) ∧
  ((0 : Int) ≤ (↑g : Int) ∧ (↑g : Int) < (↑(32 : Nat) : Int) ∧ (32 : Nat) = (List.take g baseM ++ List.replicate ((32 : Nat) - g) (0 : Int)).length) ∧ (IntKind.u32 = IntKind.u32 ∧
  True ∧ ∃ (g' : Nat), ((1 : Nat) ≤ g' ∧ g' ≤ (32 : Nat)) ∧ (32 : Nat) - g' < (32 : Nat) - g ∧ (IntKind.i64.wrap ((↑g : Int) + (1 : Int)) = (↑g' : Int) ∧
  (List.take g baseM ++ List.replicate ((32 : Nat) - g) (0 : Int)).set (↑g : Int).toNat (IntKind.u32.wrap ((1 : Int) * (2 : Int) ^ min (IntKind.i64.wrap ((↑g : Int) - (1 : Int))).toNat IntKind.u32.bits)) = List.take g' baseM ++ List.replicate ((32 : Nat) - g') (0 : Int) ∧
  (!false && true && true && ((Nat.ble (2 : Nat) (2 : Nat) || (Nat.beq (1 : Nat) (2 : Nat) || false)) && true)) = true) ∧ (some (SV.c (Value.int IntKind.u32 (bits BinOp.xor IntKind.u32 IntKind.u32.max s))) = some (SV.c (Value.int IntKind.u32 (bits BinOp.xor IntKind.u32 IntKind.u32.max s))) ∧
  some (SV.c (Value.int IntKind.u32 (0 : Int))) = some (SV.c (Value.int IntKind.u32 (0 : Int))) ∧ some (SV.c (Value.int IntKind.i64 (4 : Int))) = some (SV.c (Value.int IntKind.i64 (4 : Int))) ∧
  True) ∧ some (R.gl (0 : Nat) (80 : Nat) IntKind.u8 deTab) = some (R.gl (0 : Nat) (80 : Nat) IntKind.u8 deTab) ∧ True) ∧ True) (True ∧ (((80 : Nat) = (80 : Nat) ∧
  IntKind.u8 = IntKind.u8 ∧ deTab = deTab) ∧ True) ∧ (∃ (m : List Int), [O.arr (74 : Nat) IntKind.u32 (List.take g baseM ++ List.replicate ((32 : Nat) - g) (0 : Int))] = [O.arr (74 : Nat) IntKind.u32 m] ∧
  okM m) ∧ (List.take g baseM ++ List.replicate ((32 : Nat) - g) (0 : Int)).length = (List.take g baseM ++ List.replicate ((32 : Nat) - g) (0 : Int)).length ∧
  True ∧ True ∧ (((80 : Nat) = (80 : Nat) ∧ IntKind.u8 = IntKind.u8 ∧ deTab = deTab) ∧ True) ∧ (∃ (m : List Int), [O.arr (74 : Nat) IntKind.u32 (twF (List.take g baseM ++ List.replicate ((32 : Nat) - g) (0 : Int)))] = [O.arr (74 : Nat) IntKind.u32 m] ∧
  okM m) ∧ (twF (List.take g baseM ++ List.replicate ((32 : Nat) - g) (0 : Int))).length = (twF (List.take g baseM ++ List.replicate ((32 : Nat) - g) (0 : Int))).length ∧
  True ∧ True ∧ (((80 : Nat) = (80 : Nat) ∧ IntKind.u8 = IntKind.u8 ∧ deTab = deTab) ∧ True) ∧ (∃ (m : List Int), [O.arr (74 : Nat) IntKind.u32 (twF (twF (List.take g baseM ++ List.replicate ((32 : Nat) - g) (0 : Int))))] = [O.arr (74 : Nat) IntKind.u32 m] ∧
  okM m) ∧ (twF (twF (List.take g baseM ++ List.replicate ((32 : Nat) - g) (0 : Int)))).length = (twF (twF (List.take g baseM ++ List.replicate ((32 : Nat) - g) (0 : Int)))).length ∧
  True ∧ True ∧ True ∧ True ∧ True ∧ (((80 : Nat) = (80 : Nat) ∧ IntKind.u8 = IntKind.u8 ∧ deTab = deTab) ∧ True) ∧ (∃ (m : List Int), [O.arr (74 : Nat) IntKind.u32 (twF (twF (twF (List.take g baseM ++ List.replicate ((32 : Nat) - g) (0 : Int)))))] = [O.arr (74 : Nat) IntKind.u32 m] ∧
  okM m) ∧ (twF (twF (twF (List.take g baseM ++ List.replicate ((32 : Nat) - g) (0 : Int))))).length = (twF (twF (twF (List.take g baseM ++ List.replicate ((32 : Nat) - g) (0 : Int))))).length ∧
  (0 : Int) ≤ (1 : Int) ∧ True ∧ True ∧ True ∧ (((80 : Nat) = (80 : Nat) ∧ IntKind.u8 = IntKind.u8 ∧ deTab = deTab) ∧ True) ∧ (∃ (m : List Int), [O.arr (74 : Nat) IntKind.u32 (twF (twF (twF (twF (List.take g baseM ++ List.replicate ((32 : Nat) - g) (0 : Int))))))] = [O.arr (74 : Nat) IntKind.u32 m] ∧
  okM m) ∧ (twF (twF (twF (twF (List.take g baseM ++ List.replicate ((32 : Nat) - g) (0 : Int)))))).length = (twF (twF (twF (twF (List.take g baseM ++ List.replicate ((32 : Nat) - g) (0 : Int)))))).length ∧
  (0 : Int) ≤ (1 : Int) ∧ True ∧ True ∧ True ∧ (((80 : Nat) = (80 : Nat) ∧ IntKind.u8 = IntKind.u8 ∧ deTab = deTab) ∧ True) ∧ (∃ (m : List Int), ∃ (n : Int), [O.arr (74 : Nat) IntKind.u32 (twF (twF (twF (twF (twF (List.take g baseM ++ List.replicate ((32 : Nat) - g) (0 : Int))))))), O.d (D.v (Value.int IntKind.u32 (bits BinOp.xor IntKind.u32 IntKind.u32.max s)))] = [O.arr (74 : Nat) IntKind.u32 m, O.d (D.v (Value.int IntKind.u32 n))] ∧
  okM m ∧ rg n) ∧ (twF (twF (twF (twF (twF (List.take g baseM ++ List.replicate ((32 : Nat) - g) (0 : Int))))))).length = (twF (twF (twF (twF (twF (List.take g baseM ++ List.replicate ((32 : Nat) - g) (0 : Int))))))).length ∧
  (((80 : Nat) = (80 : Nat) ∧ IntKind.u8 = IntKind.u8 ∧ deTab = deTab) ∧ True) ∧ (∃ (m : List Int), [O.arr (74 : Nat) IntKind.u32 (twF (twF (twF (twF (twF (List.take g baseM ++ List.replicate ((32 : Nat) - g) (0 : Int)))))))] = [O.arr (74 : Nat) IntKind.u32 m] ∧
  okM m) ∧ (twF (twF (twF (twF (twF (List.take g baseM ++ List.replicate ((32 : Nat) - g) (0 : Int))))))).length = (twF (twF (twF (twF (twF (List.take g baseM ++ List.replicate ((32 : Nat) - g) (0 : Int))))))).length ∧
  (0 : Int) ≤ (1 : Int) ∧ True ∧ bits BinOp.xor IntKind.u32 IntKind.u32.max (ofF (twF (twF (twF (twF (twF (List.take g baseM ++ List.replicate ((32 : Nat) - g) (0 : Int))))))) (bits BinOp.xor IntKind.u32 IntKind.u32.max s)) = moreF s [(0 : Int), (0 : Int), (0 : Int), (0 : Int)] ∧
  (true && true) = true) := by
  simp only [↓sw_iff, ↓Bool.and_eq_true, ↓decide_eq_true_eq, ↓decide_eq_false_iff_not, ↓Bool.not_eq_true', true_and, and_true, Bool.or_false, Nat.ble, Nat.beq, Int.toNat_natCast, List.length_append]
  intro s hs
  have nb : bits .xor .u32 IntKind.u32.max s = iv (~~~ bv s) := xor_not hs
  rw [nb]
  refine ⟨1, by omega, rfl, rfl, fun g hg => ⟨fun h => ?_, fun h => ?_⟩⟩
  · have hset := base_set ⟨g, by omega⟩ hg.1
    simp only at hset
    have hr := getD_take_rep baseM (i := g) (by have := base_okM.1; omega) (32 - g) _ (by have := base_okM.1; omega) (by have := base_okM.1; omega) hset
    have hl := base_okM.1
    refine ⟨by rw [wrap_i64_id (by omega) (by omega)]; omega, ⟨by omega, by omega, by simp; omega⟩, g + 1, by omega, by omega, by rw [wrap_i64_id (by omega) (by omega)]; omega, ?_⟩
    rw [hr]; rfl
  · have : g = 32 := by omega
    subst this
    have e : List.take 32 baseM ++ List.replicate (32 - 32) 0 = baseM := by rw [List.take_of_length_le (by have := base_okM.1; omega)]; simp
    simp only [e]
    have b0 := base_okM
    have b1 := okM_tw b0
    have b2 := okM_tw b1
    have b3 := okM_tw b2
    have b4 := okM_tw b3
    have b5 := okM_tw b4
    have r1 := iv_rng (~~~ bv s)
    refine ⟨⟨_, rfl, b0⟩, ⟨_, rfl, b1⟩, ⟨_, rfl, b2⟩, ⟨_, rfl, b3⟩, by omega, ⟨_, rfl, b4⟩, by omega, ⟨_, _, rfl, b5, r1⟩, ⟨_, rfl, b5⟩, by omega, ?_⟩
    have hz := zeros_more hs.1 hs.2
    rw [← hz]
    have ho : rg (ofF (twF (twF (twF (twF (twF baseM))))) (iv (~~~ bv s))) := iv_rng _
    exact xor_not ho
set_option maxRecDepth 100000 in
theorem ok32 : FnIs Tryd.prog 32 zerosC := by
  refine fnIs (C := (ctrs p3)) (by kernel_rfl) p3_ok Tryd.func32 (code := code32) (by kernel_rfl) (by kernel_rfl) ?_
  rintro a ⟨s, rfl, hs⟩
  exact ⟨anns [(4, baseAnn 7 6)] [] [(8, 4), (11, 4)] (dr := [(4, [0, 8, 9, 10, 11]), (8, [0, 7, 8, 9, 10, 11, 12, 13, 14, 15, 16, 17, 18, 19, 20, 21, 22]), (11, [0, 7, 8, 9, 10, 11, 12, 13, 14, 15, 16, 17, 18, 19, 20, 21, 22, 23, 24, 25, 26, 27])]), kcast (vc32 s hs) (by kernel_rfl)⟩

theorem toNat4k : Int.toNat 4 = 4 := rfl
theorem toNat8 : Int.toNat 8 = 8 := rfl
theorem toNat12 : Int.toNat 12 = 12 := rfl

noncomputable def code34 : Code := match Tryd.f34.body with | some c => c | none => .skip
set_option maxHeartbeats 4000000 in
theorem vc34 : ∀ (x0 x1 x2 x3 : Int), True ∧ True ∧ ((0 : Int) ≤ IntKind.i64.wrap ((↑(4 : Nat) : Int) - (1 : Int)) ∧ IntKind.i64.wrap ((↑(4 : Nat) : Int) - (1 : Int)) < (↑(4 : Nat) : Int)) ∧
  ((0 : Int) ≤ (0 : Int) ∧ (0 : Int) < (↑(4 : Nat) : Int)) ∧ ((0 : Int) ≤ (0 : Int) ∧ (0 : Int) < (↑(4 : Nat) : Int)) ∧ (IntKind.u8 = IntKind.u8 ∧ ((0 : Int) ≤ IntKind.i64.wrap ((↑(4 : Nat) : Int) - (1 : Int)) ∧
  IntKind.i64.wrap ((↑(4 : Nat) : Int) - (1 : Int)) < (↑(4 : Nat) : Int)) ∧ (IntKind.u8 = IntKind.u8 ∧ True ∧ True ∧ True ∧ ((0 : Int) ≤ IntKind.i64.wrap (IntKind.i64.wrap ((↑(4 : Nat) : Int) - (1 : Int)) - (1 : Int)) ∧
  IntKind.i64.wrap (IntKind.i64.wrap ((↑(4 : Nat) : Int) - (1 : Int)) - (1 : Int)) < (↑(4 : Nat) : Int)) ∧ ((0 : Int) ≤ IntKind.i64.wrap ((0 : Int) + (1 : Int)) ∧
  IntKind.i64.wrap ((0 : Int) + (1 : Int)) < (↑(4 : Nat) : Int)) ∧ ((0 : Int) ≤ IntKind.i64.wrap ((0 : Int) + (1 : Int)) ∧ IntKind.i64.wrap ((0 : Int) + (1 : Int)) < (↑(4 : Nat) : Int)) ∧
  (IntKind.u8 = IntKind.u8 ∧ ((0 : Int) ≤ IntKind.i64.wrap (IntKind.i64.wrap ((↑(4 : Nat) : Int) - (1 : Int)) - (1 : Int)) ∧ IntKind.i64.wrap (IntKind.i64.wrap ((↑(4 : Nat) : Int) - (1 : Int)) - (1 : Int)) < (↑(4 : Nat) : Int)) ∧
  (IntKind.u8 = IntKind.u8 ∧ True ∧ True ∧ True ∧ ((([x0, x1, x2, x3].set (Int.toNat (0 : Int)) ([x0, x1, x2, x3].getD (IntKind.i64.wrap ((↑(4 : Nat) : Int) - (1 : Int))).toNat (0 : Int))).set (IntKind.i64.wrap ((↑(4 : Nat) : Int) - (1 : Int))).toNat ([x0, x1, x2, x3].getD (Int.toNat (0 : Int)) (0 : Int))).set (IntKind.i64.wrap ((0 : Int) + (1 : Int))).toNat ((([x0, x1, x2, x3].set (Int.toNat (0 : Int)) ([x0, x1, x2, x3].getD (IntKind.i64.wrap ((↑(4 : Nat) : Int) - (1 : Int))).toNat (0 : Int))).set (IntKind.i64.wrap ((↑(4 : Nat) : Int) - (1 : Int))).toNat ([x0, x1, x2, x3].getD (Int.toNat (0 : Int)) (0 : Int))).getD (IntKind.i64.wrap (IntKind.i64.wrap ((↑(4 : Nat) : Int) - (1 : Int)) - (1 : Int))).toNat (0 : Int))).set (IntKind.i64.wrap (IntKind.i64.wrap ((↑(4 : Nat) : Int) - (1 : Int)) - (1 : Int))).toNat ((([x0, x1, x2, x3].set (Int.toNat (0 : Int)) ([x0, x1, x2, x3].getD (IntKind.i64.wrap ((↑(4 : Nat) : Int) - (1 : Int))).toNat (0 : Int))).set (IntKind.i64.wrap ((↑(4 : Nat) : Int) - (1 : Int))).toNat ([x0, x1, x2, x3].getD (Int.toNat (0 : Int)) (0 : Int))).getD (IntKind.i64.wrap ((0 : Int) + (1 : Int))).toNat (0 : Int)) = [x0, x1, x2, x3].reverse ∧
  (!false && true && true) = true) ∧ True) ∧ True) ∧ True) ∧ True := by
  simp only [↓Bool.and_eq_true, ↓Bool.not_eq_true', true_and, and_true]
  intro x0 x1 x2 x3
  repeat' apply And.intro
  all_goals first
    | decide
    | rfl
set_option maxRecDepth 100000 in
theorem ok34 : FnIs Tryd.prog 34 revC := by
  refine fnIs (C := (ctrs c0)) (by kernel_rfl) c0_ok Tryd.func34 (code := code34) (by kernel_rfl) (by kernel_rfl) ?_
  rintro a ⟨x0, x1, x2, x3, rfl⟩
  exact ⟨anns [] [] [(1, 3)], kcast (vc34 x0 x1 x2 x3) (by kernel_rfl)⟩

theorem p4_ok : COk Tryd.prog (ctrs p4) := cok_cons ok33 (cok_cons ok32 (cok_cons ok31 (cok_cons ok16 (cok_cons ok34 cok_nil))))
theorem be_w4 (n : Int) (h : 0 ≤ n) (h1 : n ≤ 4294967295) : be (IntKind.u64.wrap n) 4 = be n 4 := by
  rw [IntKind.wrap_u64, Int.emod_eq_of_lt h (by omega)]

noncomputable def code17 : Code := match Tryd.f17.body with | some c => c | none => .skip
set_option maxHeartbeats 4000000 in
theorem vc17 : ∀ (b : List Int), (12 : Nat) ≤ b.length → sm b.length → okB b → ((0 : Int) ≤ (8 : Int) ∧ (8 : Int) ≤ (↑b.length : Int)) ∧ ((0 : Int) ≤ (12 : Int) ∧ (12 : Int) ≤ (↑b.length : Int)) ∧
  ((∃ (b_1 : List Int), [O.d (D.ints IntKind.u8 (List.take (Int.toNat (8 : Int)) b))] = [O.d (D.ints IntKind.u8 b_1)] ∧ sm b_1.length ∧ okB b_1) ∧ ((((80 : Nat) = (80 : Nat) ∧
  IntKind.u8 = IntKind.u8 ∧ deTab = deTab) ∧ True) ∧ (∃ (s : Int), [O.d (D.v (Value.int IntKind.u32 (sumF (List.take (Int.toNat (8 : Int)) b)))), O.d (D.v (Value.int IntKind.i64 (4 : Int)))] = [O.d (D.v (Value.int IntKind.u32 s)), O.d (D.v (Value.int IntKind.i64 (4 : Int)))] ∧
  rg s) ∧ ((∃ (s : Int), ∃ (b_1 : List Int), [O.d (D.v (Value.int IntKind.u32 (moreF (sumF (List.take (Int.toNat (8 : Int)) b)) [(0 : Int), (0 : Int), (0 : Int), (0 : Int)]))), O.d (D.ints IntKind.u8 (List.drop (Int.toNat (12 : Int)) b))] = [O.d (D.v (Value.int IntKind.u32 s)), O.d (D.ints IntKind.u8 b_1)] ∧
  ((0 : Int) ≤ s ∧ s ≤ (4294967295 : Int)) ∧ sm b_1.length ∧ okB b_1) ∧ (∃ (b_1 : List Int), ∃ (n : Int), ∃ (k : Nat), [O.d (D.ints IntKind.u8 []), O.d (D.v (Value.int IntKind.u64 (IntKind.u64.wrap (moreF (moreF (sumF (List.take (Int.toNat (8 : Int)) b)) [(0 : Int), (0 : Int), (0 : Int), (0 : Int)]) (List.drop (Int.toNat (12 : Int)) b))))), O.d (D.v (Value.int IntKind.i64 (4 : Int)))] = [O.d (D.ints IntKind.u8 b_1), O.d (D.v (Value.int IntKind.u64 n)), O.d (D.v (Value.int IntKind.i64 (↑k : Int)))] ∧
  sm b_1.length ∧ (1 : Nat) ≤ k ∧ k ≤ (8 : Nat)) ∧ (∃ (x0 : Int), ∃ (x1 : Int), ∃ (x2 : Int), ∃ (x3 : Int), [O.own (5 : Nat) (D.ints IntKind.u8 ([] ++ be (IntKind.u64.wrap (moreF (moreF (sumF (List.take (Int.toNat (8 : Int)) b)) [(0 : Int), (0 : Int), (0 : Int), (0 : Int)]) (List.drop (Int.toNat (12 : Int)) b))) (Int.toNat (4 : Int))))] = [O.own (5 : Nat) (D.ints IntKind.u8 [x0, x1, x2, x3])]) ∧
  ([] ++ be (IntKind.u64.wrap (moreF (moreF (sumF (List.take (Int.toNat (8 : Int)) b)) [(0 : Int), (0 : Int), (0 : Int), (0 : Int)]) (List.drop (Int.toNat (12 : Int)) b))) (Int.toNat (4 : Int))).reverse = pkB b ∧
  (!false && true && true) = true) ∧ True) ∧ True) ∧ True := by
  simp only [↓Bool.and_eq_true, ↓Bool.not_eq_true', true_and, and_true, List.nil_append, wrap_more, toNat4k, toNat8, toNat12]
  intro b h h1 hb
  unfold sm at h1
  have hl : (List.take 8 b).length ≤ 8 := List.length_take_le _ _
  have hl2 : (List.drop 12 b).length ≤ b.length := by rw [List.length_drop]; omega
  refine ⟨⟨by omega, by omega⟩, ⟨by omega, by omega⟩, ⟨_, rfl, by unfold sm; omega, okB_take hb _⟩, ⟨_, rfl, more_rng _ _⟩, ⟨_, _, rfl, more_rng _ _, by unfold sm; omega, okB_drop hb _⟩, ⟨_, _, 4, rfl, by simp [sm], by omega, by omega⟩, ⟨_, _, _, _, rfl⟩, rfl⟩
set_option maxRecDepth 100000 in
theorem ok17 : FnIs Tryd.prog 17 pksC := by
  refine fnIs (C := (ctrs p4)) (by kernel_rfl) p4_ok Tryd.func17 (code := code17) (by kernel_rfl) (by kernel_rfl) ?_
  rintro a ⟨b, rfl, h, h1, hb⟩
  exact ⟨anns [], kcast (vc17 b h h1 hb) (by kernel_rfl)⟩

end Go.ZR

/- Chunks: data, plain functions, contracts. -/
namespace Go.ZM
open Go.Z Go.ZR

structure ChR where
  t : Int
  f : Int
  v : List Int
def noCh : ChR := ⟨0, 0, []⟩
def chCell (l : List ChR) (i j : Nat) : D :=
  match j with
  | 0 => .v (.int .u8 (l.getD i noCh).t)
  | 1 => .v (.int .u8 (l.getD i noCh).f)
  | _ => .ints .u8 (l.getD i noCh).v
def chAt (g : Nat → D) : ChR := ⟨vi (g 0), vi (g 1), vl (g 2)⟩
def chsOf : D → List ChR
  | .recs _ n f => (List.range n).map fun i => chAt (f i)
  | _ => []
theorem range_getD {α : Type} (l : List α) (d : α) : (List.range l.length).map (fun i => l.getD i d) = l := by
  apply List.ext_getElem
  · simp
  · intro i h1 h2; simp [List.getD, List.getElem?_eq_getElem h2]
theorem chsOf_chs (l : List ChR) : chsOf (.recs 3 l.length (chCell l)) = l := range_getD l noCh

def chB (c : ChR) : List Int := [c.t, c.f] ++ (be (4 + (c.v.length : Int)) 2 ++ padF c.v)
def putB (l : List ChR) : List Int := l.flatMap chB
/-- Chunks as bytes, and the error. -/
def putR (l : List ChR) : List Int × Int := if 32 < l.length ∨ 4096 < (putB l).length then ([], 4) else (putB l, 0)
def someNZ (l : List Int) : Bool := l.any fun x => decide (0 < x)
/-- The first chunk's number. -/
def numF (b : List Int) : Nat := (valF ((b.drop 2).take 2)).toNat
/-- The first chunk of bytes; how many it takes; the error. -/
def firstF (b : List Int) : ChR × Nat × Int :=
  if b.length < 4 then (noCh, 0, 3) else
  if numF b < 4 then (noCh, 0, 2) else
  if b.length < numF b + padN (numF b) then (noCh, 0, 3) else
  if someNZ ((b.drop (numF b)).take (padN (numF b))) = true then (noCh, 0, 2) else
  (⟨b.getD 0 0, b.getD 1 0, (b.drop 4).take (numF b - 4)⟩, numF b + padN (numF b), 0)
def getG : Nat → List ChR → List Int → List ChR × Int
  | 0, _, _ => ([], 4)
  | f + 1, l, b => if b.length = 0 then (l, 0) else if 32 ≤ l.length then ([], 4) else
    if (firstF b).2.2 = 0 then getG f (l ++ [(firstF b).1]) (b.drop (firstF b).2.1) else ([], (firstF b).2.2)
def getR (b : List Int) : List ChR × Int := if 4096 < b.length then ([], 4) else getG 33 [] b
def sameCh (c d : ChR) : Bool := decide (c.t = d.t) && decide (c.f = d.f) && decide (bstr c.v = bstr d.v)
def sameChs (l m : List ChR) : Bool := (List.range (min l.length m.length)).all (fun i => sameCh (l.getD i noCh) (m.getD i noCh)) && decide (l.length = m.length)
def okCh (c : ChR) : Prop := sm c.v.length
def okChs (l : List ChR) : Prop := l.length ≤ 1073741824 ∧ ∀ c, c ∈ l → sm c.v.length
end Go.ZM
namespace Go.ZR
open Go.Z Go.ZM
def chsD (l : List ChR) : D := .recs 3 l.length (chCell l)
def chO (c : ChR) : O := .agg [iO .u8 c.t, iO .u8 c.f, bsO c.v]
def chN (c : ChR) : O := .agg [iO .u8 c.t, iO .u8 c.f, bsN c.v]
def chOf : O → ChR
  | .agg [t, f, v] => ⟨vi (dO t), vi (dO f), vl (dO v)⟩
  | _ => noCh
/-- As nC; results may share what is read. -/
def rC (n : Nat) (pre : List O → Prop) (res : List O → List O) : Ctr where
  own := []
  pre := pre
  res := res
  upd := fun _ => List.replicate n .any
  ro := true
  quiet := false
def ownC : Ctr := rC 1 (fun a => ∃ l, a = [.d (chsD l)] ∧ okChs l) fun a => [.own 28 (chsD (chsOf (dO (at_ a 0))))]
def putsC : Ctr := nC 1 false (fun a => ∃ l, a = [.d (chsD l)] ∧ okChs l) fun a => [bsN (putR (chsOf (dO (at_ a 0)))).1, iO .i64 (putR (chsOf (dO (at_ a 0)))).2]
def sizeC : Ctr := nC 1 true (fun a => ∃ c, a = [chO c] ∧ okCh c) fun a => [iO .i64 ((chB (chOf (at_ a 0))).length : Nat)]
def ansC : Ctr := nC 0 true (fun a => a = []) fun _ => [bO true]
def nzD : D := fnD 48 0 []
def nzC : Ctr := nC 2 true (fun a => ∃ l, a = [bsO l, .d nzD] ∧ sm l.length) fun a => [bO (someNZ (vl (dO (at_ a 0))))]
def firstC : Ctr := nC 1 false (fun a => ∃ b, a = [bsO b] ∧ sm b.length ∧ okB b) fun a =>
  [chN (firstF (vl (dO (at_ a 0)))).1, iO .i64 ((firstF (vl (dO (at_ a 0)))).2.1 : Nat), iO .i64 (firstF (vl (dO (at_ a 0)))).2.2]
def getsC : Ctr := rC 1 (fun a => ∃ b, a = [bsO b] ∧ sm b.length ∧ okB b) fun a => [.own 28 (chsD (getR (vl (dO (at_ a 0)))).1), iO .i64 (getR (vl (dO (at_ a 0)))).2]
def sameC : Ctr := nC 2 true (fun a => ∃ c d, a = [chO c, chO d]) fun a => [bO (sameCh (chOf (at_ a 0)) (chOf (at_ a 1)))]
def samesC : Ctr := nC 2 true (fun a => ∃ l m, a = [.d (chsD l), .d (chsD m)] ∧ okChs l ∧ okChs m) fun a => [bO (sameChs (chsOf (dO (at_ a 0))) (chsOf (dO (at_ a 1))))]

def ownAnn (l : List ChR) : LoopAnn where
  γ := Nat
  pre := fun i => i ≤ l.length
  μ := fun i => l.length - i
  items := fun i => [(4, .c (iO .i64 (i : Int))), (3, .c (.own 28 (chsD (l.take i))))]
def sizeAnn (l : List ChR) : LoopAnn where
  γ := Nat
  pre := fun i => i ≤ l.length ∧ (putB (l.take i)).length ≤ 4096
  μ := fun i => l.length - i
  items := fun i => [(15, .c (iO .i64 (i : Int))), (4, .c (iO .i64 ((putB (l.take i)).length : Nat)))]
def outAnn (s t : Nat) (l : List ChR) : LoopAnn where
  γ := Nat
  pre := fun i => i ≤ l.length ∧ (putB (l.take i)).length ≤ 4096
  μ := fun i => l.length - i
  items := fun i => [(s, .c (iO .i64 (i : Int))), (t, .c (bsN (putB (l.take i))))]
def firstAnn : LoopF := .fam (List Int) fun l =>
  { γ := Nat, pre := fun i => i ≤ l.length ∧ ∀ j, j < i → ¬ 0 < l.getD j 0, μ := fun i => l.length - i, items := fun i => [(8, .c (iO .i64 (i : Int)))] }
def getAnn (b : List Int) : LoopAnn where
  γ := List ChR × List Int
  pre := fun g => g.1.length ≤ 32 ∧ g.2.length ≤ 4096 ∧ okB g.2 ∧ getG (33 - g.1.length) g.1 g.2 = getG 33 [] b
  μ := fun g => 33 - g.1.length
  items := fun g => [(4, .c (.own 28 (chsD g.1))), (0, .c (bsO g.2))]
def getAnn' (b : List Int) : LoopAnn where
  γ := List ChR × Nat
  pre := fun g => g.1.length ≤ 32 ∧ g.2 ≤ b.length ∧ getG (33 - g.1.length) g.1 (b.drop g.2) = getG 33 [] b
  μ := fun g => 33 - g.1.length
  items := fun g => [(4, .c (.own 28 (chsD g.1))), (5, .c (iO .i64 (g.2 : Int)))]
def padAnn (b : List Int) : LoopF := .fam (Nat × Nat) fun p =>
  { γ := Nat, pre := fun i => p.1 ≤ i ∧ i ≤ p.2 ∧ ∀ j, p.1 ≤ j → j < i → b.getD j 0 = 0, μ := fun i => p.2 - i, items := fun i => [(8, .c (iO .i64 (i : Int)))] }
def samesAnn (l m : List ChR) : LoopAnn where
  γ := Nat
  pre := fun i => i ≤ l.length ∧ i ≤ m.length ∧ ∀ j, j < i → sameCh (l.getD j noCh) (m.getD j noCh) = true
  μ := fun i => l.length - i
  items := fun i => [(5, .c (iO .i64 (i : Int)))]
def c4 : List (Nat × Ctr) := [(43, padC)]
def c5 : List (Nat × Ctr) := [(28, sizeC), (16, putC), (29, paddedC)]
def c7 : List (Nat × Ctr) := [(20, getC 8), (43, padC), (36, partC), (47, nzC), (30, cloneC)]
def c8 : List (Nat × Ctr) := [(35, firstC)]
def c9 : List (Nat × Ctr) := [(23, numC), (38, padC)]
def c10 : List (Nat × Ctr) := [(41, sameC)]
end Go.ZR

/- Chunks: walked. -/
namespace Go.ZR
open Go.Proofs
open Go.Z Go.ZM Go.RowKit
set_option maxRecDepth 100000
theorem bytes28 : Tryd.prog.types[(28 : Nat)].bytes = 32 := by kernel_rfl
theorem size28 : Tryd.prog.types[(28 : Nat)].size = 3 := by kernel_rfl
theorem chB_len (c : ChR) : (chB c).length = 4 + c.v.length + padN c.v.length := by simp [chB, be_len, padF_len]; omega
theorem putB_take {l : List ChR} {i : Nat} (h : i < l.length) : putB (l.take (i + 1)) = putB (l.take i) ++ chB (l.getD i noCh) := by
  unfold putB
  rw [List.take_succ_eq_append_getElem h, List.flatMap_append, show l.getD i noCh = l[i] by simp [List.getD, List.getElem?_eq_getElem h]]
  simp
theorem getD_mem {α : Type} {l : List α} {d : α} {i : Nat} (h : i < l.length) : l.getD i d ∈ l := by
  rw [show l.getD i d = l[i] by simp [List.getD, List.getElem?_eq_getElem h]]; exact List.getElem_mem h
theorem ch_cell {l : List ChR} {i : Nat} {c : ChR} (h : l.getD i noCh = c) {j : Nat} (hj : j < 3) : [D.v (.int .u8 c.t), D.v (.int .u8 c.f), D.ints .u8 c.v].getD j (D.v undef) = chCell l i j := by
  subst h
  match j, hj with
  | 0, _ => rfl
  | 1, _ => rfl
  | 2, _ => rfl
theorem blt_t {a b : Nat} (h : a < b) : a.blt b = true := by simpa [Nat.blt_eq] using h
theorem blt_f {a b : Nat} (h : ¬ a < b) : a.blt b = false := by
  cases e : a.blt b with
  | false => rfl
  | true => exact absurd (by simpa [Nat.blt_eq] using e) h
theorem app_ch (l : List ChR) (c : ChR) {i j : Nat} (hi : i < l.length + 1) (hj : j < 3) :
    (bif i.blt l.length then chCell l i j else [D.v (.int .u8 c.t), D.v (.int .u8 c.f), D.ints .u8 c.v].getD ((i - l.length) * 3 + j) (D.v undef)) = chCell (l ++ [c]) i j := by
  by_cases h : i < l.length
  · have e : (l ++ [c]).getD i noCh = l.getD i noCh := by simp [List.getD, List.getElem?_append_left h]
    rw [blt_t h, _root_.cond_true]
    unfold chCell
    rw [e]
  · have hi' : i = l.length := by omega
    have e : (l ++ [c]).getD i noCh = c := by subst hi'; simp [List.getD]
    rw [blt_f h, _root_.cond_false, show (i - l.length) * 3 + j = j by omega]
    exact ch_cell e hj
theorem take_ch {l : List ChR} {i : Nat} (h : i < l.length) : l.take (i + 1) = l.take i ++ [l.getD i noCh] := by
  rw [List.take_succ_eq_append_getElem h, show l.getD i noCh = l[i] by simp [List.getD, List.getElem?_eq_getElem h]]
theorem bytes_dec (a b : ByteArray) : decide (a.data.toList = b.data.toList) = decide (a = b) := by
  rw [decide_eq_decide]
  constructor
  · intro h
    cases a; cases b
    simp only [ByteArray.mk.injEq]
    exact Array.ext' h
  · rintro rfl; rfl
theorem toNat2 : Int.toNat 2 = 2 := rfl
theorem toNat4 : Int.toNat 4 = 4 := rfl
theorem toNat0 : Int.toNat 0 = 0 := rfl
theorem toNat1 : Int.toNat 1 = 1 := rfl
theorem chB_eta (c : ChR) : chB ⟨c.t, c.f, c.v⟩ = chB c := rfl
theorem putB_mono (l : List ChR) (i : Nat) : (putB (l.take i)).length ≤ (putB l).length := by
  have : putB l = putB (l.take i) ++ putB (l.drop i) := by
    unfold putB; rw [← List.flatMap_append, List.take_append_drop]
  rw [this, List.length_append]; omega
theorem put_err1 {l : List ChR} (h : 32 < l.length) : putR l = ([], 4) := by unfold putR; rw [if_pos (.inl h)]
theorem put_err2 {l : List ChR} {i : Nat} (h : 4096 < (putB (l.take i)).length) : putR l = ([], 4) := by
  have := putB_mono l i
  unfold putR; rw [if_pos (.inr (by omega))]
theorem put_ok {l : List ChR} (h : l.length ≤ 32) (h' : (putB l).length ≤ 4096) : putR l = (putB l, 0) := by
  unfold putR; rw [if_neg (by omega)]
theorem wrap_len {n : Nat} (h : n ≤ 1099511627776) : IntKind.u64.wrap (IntKind.i64.wrap (4 + (n : Int))) = 4 + (n : Int) := by
  rw [wrap_i64_id (by omega) (by omega), IntKind.wrap_u64]; omega
theorem putB_step {l : List ChR} {g : Nat} (h : g < l.length) : putB (l.take g) ++ [(l.getD g noCh).t, (l.getD g noCh).f] ++ be (4 + ((l.getD g noCh).v.length : Int)) 2 ++ padF (l.getD g noCh).v = putB (l.take (g + 1)) := by
  rw [putB_take h]; simp [chB]
theorem first_short {b : List Int} (h : b.length < 4) : firstF b = (noCh, 0, 3) := by unfold firstF; rw [if_pos h]
theorem first_form {b : List Int} (h : ¬ b.length < 4) (h1 : numF b < 4) : firstF b = (noCh, 0, 2) := by unfold firstF; rw [if_neg h, if_pos h1]
theorem first_short2 {b : List Int} (h : ¬ b.length < 4) (h1 : ¬ numF b < 4) (h2 : b.length < numF b + padN (numF b)) : firstF b = (noCh, 0, 3) := by
  unfold firstF; rw [if_neg h, if_neg h1, if_pos h2]
theorem first_form2 {b : List Int} (h : ¬ b.length < 4) (h1 : ¬ numF b < 4) (h2 : ¬ b.length < numF b + padN (numF b)) (h3 : someNZ ((b.drop (numF b)).take (padN (numF b))) = true) : firstF b = (noCh, 0, 2) := by
  unfold firstF; rw [if_neg h, if_neg h1, if_neg h2, if_pos h3]
theorem first_ok {b : List Int} (h : ¬ b.length < 4) (h1 : ¬ numF b < 4) (h2 : ¬ b.length < numF b + padN (numF b)) (h3 : someNZ ((b.drop (numF b)).take (padN (numF b))) = false) :
    firstF b = (⟨b.getD 0 0, b.getD 1 0, (b.drop 4).take (numF b - 4)⟩, numF b + padN (numF b), 0) := by
  unfold firstF; rw [if_neg h, if_neg h1, if_neg h2, if_neg (by rw [h3]; simp)]
theorem num_lt {b : List Int} (hb : okB b) : 0 ≤ valF ((b.drop 2).take 2) ∧ valF ((b.drop 2).take 2) < 65536 := by
  have h := okB_take (okB_drop hb 2) 2
  have h1 := val_lt h
  have h2 : ((b.drop 2).take 2).length ≤ 2 := List.length_take_le _ _
  have h3 : ∀ k : Nat, k ≤ 2 → (256 : Int) ^ k ≤ 65536 := by decide
  have := h3 _ h2
  exact ⟨val_nonneg h, by omega⟩
theorem first_all {b : List Int} (h : (firstF b).2.2 = 0) : (firstF b).2.1 ≤ b.length ∧ 4 ≤ (firstF b).2.1 := by
  by_cases h0 : b.length < 4
  · rw [first_short h0] at h; cases h
  by_cases h1 : numF b < 4
  · rw [first_form h0 h1] at h; cases h
  by_cases h2 : b.length < numF b + padN (numF b)
  · rw [first_short2 h0 h1 h2] at h; cases h
  cases h3 : someNZ ((b.drop (numF b)).take (padN (numF b))) with
  | true => rw [first_form2 h0 h1 h2 h3] at h; cases h
  | false => rw [first_ok h0 h1 h2 h3]; simp only; omega
theorem getG_nil {f : Nat} {l : List ChR} : getG (f + 1) l [] = (l, 0) := by rw [getG, if_pos List.length_nil]
theorem getG_full {f : Nat} {l : List ChR} {b : List Int} (hb : b.length ≠ 0) (h : 32 ≤ l.length) : getG (f + 1) l b = ([], 4) := by rw [getG, if_neg hb, if_pos h]
theorem getG_err {f : Nat} {l : List ChR} {b : List Int} (hb : b.length ≠ 0) (h : ¬ 32 ≤ l.length) (he : ¬ (firstF b).2.2 = 0) : getG (f + 1) l b = ([], (firstF b).2.2) := by rw [getG, if_neg hb, if_neg h, if_neg he]
theorem getG_step {f : Nat} {l : List ChR} {b : List Int} (hb : b.length ≠ 0) (h : ¬ 32 ≤ l.length) (he : (firstF b).2.2 = 0) : getG (f + 1) l b = getG f (l ++ [(firstF b).1]) (b.drop (firstF b).2.1) := by
  rw [getG, if_neg hb, if_neg h, if_pos he]
theorem getR_big {b : List Int} (h : 4096 < b.length) : getR b = ([], 4) := by unfold getR; rw [if_pos h]
theorem getR_eq {b : List Int} (h : ¬ 4096 < b.length) : getR b = getG 33 [] b := by unfold getR; rw [if_neg h]
theorem getD_drop {α : Type} (l : List α) (n i : Nat) (d : α) : (l.drop n).getD i d = l.getD (n + i) d := by simp [List.getD, List.getElem?_drop]
theorem nz_true {b : List Int} (hb : okB b) {n k j : Nat} (h1 : n ≤ j) (h2 : j < n + k) (h3 : j < b.length) (h : ¬ b.getD j 0 = 0) : someNZ ((b.drop n).take k) = true := by
  rw [someNZ, List.any_eq_true]
  have := okB_getD hb j
  refine ⟨b.getD j 0, ?_, decide_eq_true (by omega)⟩
  have hl : j - n < ((b.drop n).take k).length := by rw [List.length_take, List.length_drop]; omega
  have e : ((b.drop n).take k).getD (j - n) 0 = b.getD j 0 := by
    simp only [List.getD, List.getElem?_take, List.getElem?_drop]
    rw [if_pos (by omega), show n + (j - n) = j by omega]
  rw [← e]; exact getD_mem hl
theorem nz_false {b : List Int} {n k : Nat} (h : ∀ j, n ≤ j → j < n + k → b.getD j 0 = 0) : someNZ ((b.drop n).take k) = false := by
  rw [someNZ, List.any_eq_false]
  intro x hx
  obtain ⟨i, hi, rfl⟩ := List.mem_iff_getElem.1 hx
  have hl : i < k ∧ i < b.length - n := by rw [List.length_take, List.length_drop] at hi; omega
  have := h (n + i) (by omega) (by omega)
  have e : ((b.drop n).take k)[i] = b.getD (n + i) 0 := by
    rw [List.getElem_take, List.getElem_drop]
    simp [List.getD, List.getElem?_eq_getElem (show n + i < b.length by omega)]
  rw [e, this]; simp
theorem sames_false {l m : List ChR} {g : Nat} (h1 : g < l.length) (h2 : g < m.length) (h : sameCh (l.getD g noCh) (m.getD g noCh) = false) : sameChs l m = false := by
  have : ((List.range (min l.length m.length)).all fun i => sameCh (l.getD i noCh) (m.getD i noCh)) = false := by
    rw [List.all_eq_false]
    exact ⟨g, List.mem_range.2 (by omega), by simpa using h⟩
  unfold sameChs; rw [this]; rfl
theorem sames_end {l m : List ChR} {g : Nat} (hg : min l.length m.length ≤ g) (h : ∀ j, j < g → sameCh (l.getD j noCh) (m.getD j noCh) = true) : decide ((l.length : Int) = (m.length : Int)) = sameChs l m := by
  have : ((List.range (min l.length m.length)).all fun i => sameCh (l.getD i noCh) (m.getD i noCh)) = true := by
    rw [List.all_eq_true]
    intro x hx
    exact h x (by have := List.mem_range.1 hx; omega)
  unfold sameChs; rw [this, Bool.true_and]
  congr 1; apply propext; omega
theorem c4_ok : COk Tryd.prog (ctrs c4) := cok_cons ok43 cok_nil
noncomputable def i68c51 : Code := match Tryd.f51.body with | some c => c | none => .skip
noncomputable def i68_51 : InlF := ⟨i68c51, Tryd.f51.ntmps, Tryd.f51.results.toList, anns [(2, firstAnn)]⟩
noncomputable def i68c48 : Code := match Tryd.f48.body with | some c => c | none => .skip
noncomputable def i68_48 : InlF := ⟨i68c48, Tryd.f48.ntmps, Tryd.f48.results.toList, anns []⟩
noncomputable def i68 : List (Nat × InlF) := [(51, i68_51), (48, i68_48)]
theorem i68_ok : InlsOk Tryd.prog i68 := ⟨inlOk Tryd.func51 (by kernel_rfl) (by kernel_rfl), inlOk Tryd.func48 (by kernel_rfl) (by kernel_rfl), trivial⟩
noncomputable def code28 : Code := match Tryd.f28.body with | some c => c | none => .skip
set_option maxHeartbeats 4000000 in
theorem vc28 : ∀ (c : ChR), okCh c → True ∧ (∃ (n : Nat), [O.d (D.v (Value.int IntKind.i64 (↑c.v.length : Int)))] = [O.d (D.v (Value.int IntKind.i64 (↑n : Int)))] ∧ n ≤ (2199023255552 : Nat)) ∧
  True ∧ IntKind.i64.wrap (IntKind.i64.wrap ((4 : Int) + (↑c.v.length : Int)) + (↑(padN (↑c.v.length : Int).toNat) : Int)) = (↑(chB (ChR.mk c.t c.f c.v)).length : Int) ∧
  (true && true) = true := by
  simp only [↓Bool.and_eq_true, true_and, and_true, Int.toNat_natCast, chB_len]
  intro c h
  have h' := h
  unfold okCh sm at h'
  have := padN_le c.v.length
  refine ⟨⟨_, rfl, by omega⟩, ?_⟩
  rw [wrap_i64_id (n := 4 + (c.v.length : Int)) (by omega) (by omega), wrap_i64_id (by omega) (by omega)]
  omega
set_option maxRecDepth 100000 in
theorem ok28 : FnIs Tryd.prog 28 sizeC := by
  refine fnIs (C := (ctrs c4)) (by kernel_rfl) c4_ok Tryd.func28 (code := code28) (by kernel_rfl) (by kernel_rfl) ?_
  rintro a ⟨c, rfl, h⟩
  exact ⟨anns [], kcast (vc28 c h) (by kernel_rfl)⟩

theorem c5_ok : COk Tryd.prog (ctrs c5) := cok_cons ok28 (cok_cons ok16 (cok_cons ok29 cok_nil))

noncomputable def code15 : Code := match Tryd.f15.body with | some c => c | none => .skip
set_option maxHeartbeats 4000000 in
theorem vc15 : ∀ (l : List ChR), okChs l → True ∧ sw (decide ((32 : Int) < (↑l.length : Int))) ((putR (chsOf (D.recs (3 : Nat) l.length (chCell l)))).fst = [] ∧ (4 : Int) = (putR (chsOf (D.recs (3 : Nat) l.length (chCell l)))).snd ∧
  (true && true) = true) (∃ (g0 : Nat), (g0 ≤ l.length ∧ (putB (List.take g0 l)).length ≤ (4096 : Nat)) ∧ (0 : Int) = (↑g0 : Int) ∧ (0 : Int) = (↑(putB (List.take g0 l)).length : Int) ∧
  (true && true) = true ∧ ∀ (g : Nat), g ≤ l.length ∧ (putB (List.take g l)).length ≤ (4096 : Nat) → True ∧ sw (decide ((↑g : Int) < (↑l.length : Int))) (((0 : Int) ≤ (↑g : Int) ∧
  (↑g : Int) < (↑l.length : Int)) ∧ (∃ (c : ChR), [O.agg [O.d (D.v (Value.int IntKind.u8 (l.getD (↑g : Int).toNat noCh).t)), O.d (D.v (Value.int IntKind.u8 (l.getD (↑g : Int).toNat noCh).f)), O.d (D.ints IntKind.u8 (l.getD (↑g : Int).toNat noCh).v)]] = [O.agg [O.d (D.v (Value.int IntKind.u8 c.t)), O.d (D.v (Value.int IntKind.u8 c.f)), O.d (D.ints IntKind.u8 c.v)]] ∧
  okCh c) ∧ True ∧ True ∧ sw (decide ((4096 : Int) < IntKind.i64.wrap ((↑(putB (List.take g l)).length : Int) + (↑(chB (ChR.mk (l.getD (↑g : Int).toNat noCh).t (l.getD (↑g : Int).toNat noCh).f (l.getD (↑g : Int).toNat noCh).v)).length : Int)))) ((putR (chsOf (D.recs (3 : Nat) l.length (chCell l)))).fst = [] ∧
  (4 : Int) = (putR (chsOf (D.recs (3 : Nat) l.length (chCell l)))).snd ∧ (true && true) = true) (True ∧ ∃ (g' : Nat), (g' ≤ l.length ∧ (putB (List.take g' l)).length ≤ (4096 : Nat)) ∧
  l.length - g' < l.length - g ∧ (IntKind.i64.wrap ((↑g : Int) + (1 : Int)) = (↑g' : Int) ∧ IntKind.i64.wrap ((↑(putB (List.take g l)).length : Int) + (↑(chB (ChR.mk (l.getD (↑g : Int).toNat noCh).t (l.getD (↑g : Int).toNat noCh).f (l.getD (↑g : Int).toNat noCh).v)).length : Int)) = (↑(putB (List.take g' l)).length : Int) ∧
  (true && true && true) = true) ∧ (some (SV.c (Value.int IntKind.i64 (↑l.length : Int))) = some (SV.c (Value.int IntKind.i64 (↑l.length : Int))) ∧ some (SV.a (0 : Nat)) = some (SV.a (0 : Nat)) ∧
  some (SV.c (Value.bool (decide ((32 : Int) < (↑l.length : Int))))) = some (SV.c (Value.bool (decide ((32 : Int) < (↑l.length : Int))))) ∧ some (SV.c (Value.int IntKind.i64 (↑l.length : Int))) = some (SV.c (Value.int IntKind.i64 (↑l.length : Int))) ∧
  some (SV.a (0 : Nat)) = some (SV.a (0 : Nat)) ∧ some (SV.a (0 : Nat)) = some (SV.a (0 : Nat)) ∧ True) ∧ some (R.ro (D.recs (3 : Nat) l.length (chCell l))) = some (R.ro (D.recs (3 : Nat) l.length (chCell l))) ∧
  True)) (∃ (g0_1 : Nat), (g0_1 ≤ l.length ∧ (putB (List.take g0_1 l)).length ≤ (4096 : Nat)) ∧ (0 : Int) = (↑g0_1 : Int) ∧ putB (List.take g0_1 l) = [] ∧
  (true && true) = true ∧ ∀ (g_1 : Nat), g_1 ≤ l.length ∧ (putB (List.take g_1 l)).length ≤ (4096 : Nat) → True ∧ sw (decide ((↑g_1 : Int) < (↑l.length : Int))) (((0 : Int) ≤ (↑g_1 : Int) ∧
  (↑g_1 : Int) < (↑l.length : Int)) ∧ True ∧ ((True ∧ ((putB (List.take g_1 l)).length + (2 : Nat)) * Tryd.prog.types[(5 : Nat)].bytes ≤ (140737488355328 : Nat) ∧
  ((∃ (b : List Int), ∃ (n : Int), ∃ (k : Nat), [O.d (D.ints IntKind.u8 (putB (List.take g_1 l) ++ [(l.getD (↑g_1 : Int).toNat noCh).t, (l.getD (↑g_1 : Int).toNat noCh).f])), O.d (D.v (Value.int IntKind.u64 (IntKind.u64.wrap (IntKind.i64.wrap ((4 : Int) + (↑(l.getD (↑g_1 : Int).toNat noCh).v.length : Int)))))), O.d (D.v (Value.int IntKind.i64 (2 : Int)))] = [O.d (D.ints IntKind.u8 b), O.d (D.v (Value.int IntKind.u64 n)), O.d (D.v (Value.int IntKind.i64 (↑k : Int)))] ∧
  sm b.length ∧ (1 : Nat) ≤ k ∧ k ≤ (8 : Nat)) ∧ (∃ (l_1 : List Int), [O.d (D.ints IntKind.u8 (l.getD (↑g_1 : Int).toNat noCh).v)] = [O.d (D.ints IntKind.u8 l_1)] ∧
  sm l_1.length) ∧ True ∧ ((putB (List.take g_1 l) ++ [(l.getD (↑g_1 : Int).toNat noCh).t, (l.getD (↑g_1 : Int).toNat noCh).f] ++ be (IntKind.u64.wrap (IntKind.i64.wrap ((4 : Int) + (↑(l.getD (↑g_1 : Int).toNat noCh).v.length : Int)))) (Int.toNat (2 : Int))).length + (padF (l.getD (↑g_1 : Int).toNat noCh).v).length) * Tryd.prog.types[(5 : Nat)].bytes ≤ (140737488355328 : Nat) ∧
  True ∧ ∃ (g' : Nat), (g' ≤ l.length ∧ (putB (List.take g' l)).length ≤ (4096 : Nat)) ∧ l.length - g' < l.length - g_1 ∧ (IntKind.i64.wrap ((↑g_1 : Int) + (1 : Int)) = (↑g' : Int) ∧
  putB (List.take g_1 l) ++ [(l.getD (↑g_1 : Int).toNat noCh).t, (l.getD (↑g_1 : Int).toNat noCh).f] ++ be (IntKind.u64.wrap (IntKind.i64.wrap ((4 : Int) + (↑(l.getD (↑g_1 : Int).toNat noCh).v.length : Int)))) (Int.toNat (2 : Int)) ++ padF (l.getD (↑g_1 : Int).toNat noCh).v = putB (List.take g' l) ∧
  (!false && true && true && ((Nat.ble (1 : Nat) (8 : Nat) || false) && true)) = true) ∧ (some (SV.c (Value.int IntKind.i64 (↑l.length : Int))) = some (SV.c (Value.int IntKind.i64 (↑l.length : Int))) ∧
  some (SV.a (0 : Nat)) = some (SV.a (0 : Nat)) ∧ some (SV.c (Value.bool (decide ((↑g : Int) < (↑l.length : Int))))) = some (SV.c (Value.bool (decide ((↑g : Int) < (↑l.length : Int))))) ∧
  some (SV.c (Value.int IntKind.i64 (↑g : Int))) = some (SV.c (Value.int IntKind.i64 (↑g : Int))) ∧ some (SV.c (Value.int IntKind.i64 (↑(putB (List.take g l)).length : Int))) = some (SV.c (Value.int IntKind.i64 (↑(putB (List.take g l)).length : Int))) ∧
  some (SV.c (Value.int IntKind.i64 (↑l.length : Int))) = some (SV.c (Value.int IntKind.i64 (↑l.length : Int))) ∧ some (SV.a (0 : Nat)) = some (SV.a (0 : Nat)) ∧
  some (SV.c (Value.bool (decide ((32 : Int) < (↑l.length : Int))))) = some (SV.c (Value.bool (decide ((32 : Int) < (↑l.length : Int))))) ∧ some (SV.c (Value.int IntKind.i64 (↑l.length : Int))) = some (SV.c (Value.int IntKind.i64 (↑l.length : Int))) ∧
  some (SV.a (0 : Nat)) = some (SV.a (0 : Nat)) ∧ some (SV.a (0 : Nat)) = some (SV.a (0 : Nat)) ∧ True) ∧ some (R.ro (D.recs (3 : Nat) l.length (chCell l))) = some (R.ro (D.recs (3 : Nat) l.length (chCell l))) ∧
  True) ∧ True) ∧ True) ∧ True) (putB (List.take g_1 l) = (putR (chsOf (D.recs (3 : Nat) l.length (chCell l)))).fst ∧ (0 : Int) = (putR (chsOf (D.recs (3 : Nat) l.length (chCell l)))).snd ∧
  (!false && true && true) = true))) := by
  simp only [↓sw_iff, ↓Bool.and_eq_true, ↓decide_eq_true_eq, ↓decide_eq_false_iff_not, ↓Bool.not_eq_true', true_and, and_true, Bool.or_false, Nat.ble, Int.toNat_natCast, Nat.zero_add, List.length_cons, List.length_nil, List.length_append, Nat.mul_one, bytes5, chsOf_chs, chB_eta, be_len, toNat2]
  intro l h
  obtain ⟨h1, h2⟩ := h
  refine ⟨fun t => by rw [put_err1 (by omega)]; exact ⟨rfl, rfl⟩, fun t => ⟨0, ⟨Nat.zero_le _, by simp [putB]⟩, rfl, rfl, ?_⟩⟩
  rintro g ⟨hg, hb⟩
  refine ⟨fun hlt => ?_, fun hge => ⟨0, ⟨Nat.zero_le _, by simp [putB]⟩, rfl, rfl, ?_⟩⟩
  · have hlt : g < l.length := by omega
    have hs := h2 _ (getD_mem (d := noCh) hlt)
    have hst := congrArg List.length (putB_take hlt)
    rw [List.length_append] at hst
    have hcl := chB_len (l.getD g noCh)
    have hp := padN_le (l.getD g noCh).v.length
    have hs' := hs
    unfold sm at hs'
    have e : IntKind.i64.wrap (((putB (l.take g)).length : Int) + ((chB (l.getD g noCh)).length : Int)) = ((putB (l.take (g + 1))).length : Int) := by
      rw [wrap_i64_id (by omega) (by omega)]; omega
    rw [e]
    refine ⟨⟨by omega, by omega⟩, ⟨l.getD g noCh, rfl, hs⟩, fun hx => ?_, fun hx => ⟨g + 1, ⟨hlt, by omega⟩, by omega, by rw [wrap_i64_id (by omega) (by omega)]; rfl, rfl⟩⟩
    rw [put_err2 (i := g + 1) (by omega)]; exact ⟨rfl, rfl⟩
  have hall : (putB l).length ≤ 4096 := by
    rwa [List.take_of_length_le (by omega)] at hb
  rintro k ⟨hk, hb2⟩
  refine ⟨fun hlt => ?_, fun hge => ?_⟩
  · have hlt : k < l.length := by omega
    have hs := h2 _ (getD_mem (d := noCh) hlt)
    have hst := congrArg List.length (putB_take hlt)
    rw [List.length_append, chB_len] at hst
    have hm := putB_mono l (k + 1)
    have hs' := hs
    unfold sm at hs'
    rw [wrap_len hs', padF_len]
    refine ⟨⟨by omega, by omega⟩, by omega, ⟨_, _, 2, rfl, ?_, by omega, by omega⟩, ⟨_, rfl, hs⟩, by omega, k + 1, ⟨hlt, by omega⟩, by omega, by rw [wrap_i64_id (by omega) (by omega)]; rfl, putB_step hlt⟩
    unfold sm; simp; omega
  · have : l.take k = l := List.take_of_length_le (by omega)
    rw [this, put_ok (by omega) hall]
    exact ⟨rfl, rfl⟩
set_option maxRecDepth 100000 in
theorem ok15 : FnIs Tryd.prog 15 putsC := by
  refine fnIs (C := (ctrs c5)) (by kernel_rfl) c5_ok Tryd.func15 (code := code15) (by kernel_rfl) (by kernel_rfl) ?_
  rintro a ⟨l, rfl, h⟩
  exact ⟨anns [(5, sizeAnn l), (13, outAnn 28 7 l)], kcast (vc15 l h) (by kernel_rfl)⟩

noncomputable def code47 : Code := match Tryd.f47.body with | some c => c | none => .skip
set_option maxHeartbeats 4000000 in
theorem vc47 : ∀ (l : List Int), sm l.length → ∃ (p : List Int), ∃ (g0 : Nat), (g0 ≤ p.length ∧ ∀ (j : Nat), j < g0 → ¬(0 : Int) < p.getD j (0 : Int)) ∧ (0 : Int) = (↑g0 : Int) ∧
  (true && true) = true ∧ ∀ (g : Nat), (g ≤ p.length ∧ ∀ (j : Nat), j < g → ¬(0 : Int) < p.getD j (0 : Int)) → True ∧ sw (decide ((↑g : Int) < (↑l.length : Int))) (((0 : Int) ≤ (↑g : Int) ∧
  (↑g : Int) < (↑l.length : Int)) ∧ True ∧ sw (decide ((0 : Int) < l.getD (↑g : Int).toNat (0 : Int))) (True ∧ decide ((0 : Int) ≤ (↑g : Int)) = someNZ l ∧
  (true && true) = true) (True ∧ ∃ (g' : Nat), (g' ≤ p.length ∧ ∀ (j : Nat), j < g' → ¬(0 : Int) < p.getD j (0 : Int)) ∧ p.length - g' < p.length - g ∧ (IntKind.i64.wrap ((↑g : Int) + (1 : Int)) = (↑g' : Int) ∧
  (true && true && true) = true) ∧ (some (SV.c (Value.int IntKind.i64 (↑l.length : Int))) = some (SV.c (Value.int IntKind.i64 (↑l.length : Int))) ∧ some (SV.a (0 : Nat)) = some (SV.a (0 : Nat)) ∧
  some (SV.a (0 : Nat)) = some (SV.a (0 : Nat)) ∧ some (SV.f (48 : Nat) (0 : Nat) []) = some (SV.f (48 : Nat) (0 : Nat) []) ∧ True) ∧ some (R.ro (D.ints IntKind.u8 l)) = some (R.ro (D.ints IntKind.u8 l)) ∧
  True)) (True ∧ decide ((0 : Int) ≤ (-1 : Int)) = someNZ l ∧ (true && true) = true) := by
  simp only [↓sw_iff, ↓Bool.and_eq_true, ↓decide_eq_true_eq, ↓decide_eq_false_iff_not, true_and, and_true, Int.toNat_natCast]
  intro l h
  refine ⟨l, 0, ⟨Nat.zero_le _, fun j hj => absurd hj (Nat.not_lt_zero _)⟩, rfl, ?_⟩
  rintro g ⟨h1, h2⟩
  unfold sm at h
  refine ⟨fun t => ⟨⟨by omega, t⟩, fun hx => ?_, fun hx => ⟨g + 1, ⟨by omega, fun j hj => ?_⟩, by omega, by rw [wrap_i64_id (by omega) (by omega)]; rfl⟩⟩, fun t => ?_⟩
  · have : someNZ l = true := by
      rw [someNZ, List.any_eq_true]
      exact ⟨_, getD_mem (d := (0 : Int)) (by omega : g < l.length), by simpa using hx⟩
    rw [this]; simp
  · by_cases e : j = g
    · subst e; exact hx
    · exact h2 j (by omega)
  · have : someNZ l = false := by
      rw [someNZ, List.any_eq_false]
      intro x hx
      obtain ⟨j, hj, rfl⟩ := List.mem_iff_getElem.1 hx
      have := h2 j (by omega)
      simpa [List.getD, List.getElem?_eq_getElem hj] using this
    rw [this]; rfl
set_option maxRecDepth 100000 in
theorem ok47 : FnIs Tryd.prog 47 nzC := by
  refine fnIs (C := (ctrsJ Tryd.prog c0 i68 2)) (by kernel_rfl) (cokJ (by kernel_rfl) c0_ok i68_ok) Tryd.func47 (code := code47) (by kernel_rfl) (by kernel_rfl) ?_
  rintro a ⟨l, rfl, h⟩
  exact ⟨anns [], kcast (vc47 l h) (by kernel_rfl)⟩

theorem c7_ok : COk Tryd.prog (ctrs c7) := cok_cons ok20 (cok_cons ok43 (cok_cons ok36 (cok_cons ok47 (cok_cons ok30 cok_nil))))

noncomputable def code35 : Code := match Tryd.f35.body with | some c => c | none => .skip
set_option maxHeartbeats 4000000 in
theorem vc35 : ∀ (b : List Int), sm b.length → okB b → True ∧ sw (decide ((↑b.length : Int) < (4 : Int))) ((0 : Int) = (firstF b).fst.t ∧ (0 : Int) = (firstF b).fst.f ∧
  (firstF b).fst.v = [] ∧ (0 : Int) = (↑(firstF b).snd.fst : Int) ∧ (3 : Int) = (firstF b).snd.snd ∧ (true && true) = true) ((∃ (b_1 : List Int), ∃ (i : Int), ∃ (k : Nat), [O.d (D.ints IntKind.u8 b), O.d (D.v (Value.int IntKind.i64 (2 : Int))), O.d (D.v (Value.int IntKind.i64 (2 : Int)))] = [O.d (D.ints IntKind.u8 b_1), O.d (D.v (Value.int IntKind.i64 i)), O.d (D.v (Value.int IntKind.i64 (↑k : Int)))] ∧
  sm b_1.length ∧ okB b_1 ∧ okI i ∧ (1 : Nat) ≤ k ∧ k ≤ (8 : Nat)) ∧ True ∧ sw (decide (IntKind.i64.wrap (valF (partF b (2 : Int) (↑(Int.toNat (2 : Int)) : Int)).fst) < (4 : Int))) ((0 : Int) = (firstF b).fst.t ∧
  (0 : Int) = (firstF b).fst.f ∧ (firstF b).fst.v = [] ∧ (0 : Int) = (↑(firstF b).snd.fst : Int) ∧ (2 : Int) = (firstF b).snd.snd ∧ (true && true) = true) ((∃ (n : Nat), [O.d (D.v (Value.int IntKind.i64 (IntKind.i64.wrap (valF (partF b (2 : Int) (↑(Int.toNat (2 : Int)) : Int)).fst))))] = [O.d (D.v (Value.int IntKind.i64 (↑n : Int)))] ∧
  n ≤ (2199023255552 : Nat)) ∧ True ∧ True ∧ (∃ (b_1 : List Int), ∃ (i : Int), ∃ (n : Int), [O.d (D.ints IntKind.u8 b), O.d (D.v (Value.int IntKind.i64 (IntKind.i64.wrap (valF (partF b (2 : Int) (↑(Int.toNat (2 : Int)) : Int)).fst)))), O.d (D.v (Value.int IntKind.i64 (IntKind.i64.wrap (IntKind.i64.wrap (IntKind.i64.wrap (valF (partF b (2 : Int) (↑(Int.toNat (2 : Int)) : Int)).fst) + (↑(padN (IntKind.i64.wrap (valF (partF b (2 : Int) (↑(Int.toNat (2 : Int)) : Int)).fst)).toNat) : Int)) - IntKind.i64.wrap (valF (partF b (2 : Int) (↑(Int.toNat (2 : Int)) : Int)).fst)))))] = [O.d (D.ints IntKind.u8 b_1), O.d (D.v (Value.int IntKind.i64 i)), O.d (D.v (Value.int IntKind.i64 n))] ∧
  sm b_1.length ∧ okI i ∧ okI n) ∧ True ∧ sw (!decide ((partF b (IntKind.i64.wrap (valF (partF b (2 : Int) (↑(Int.toNat (2 : Int)) : Int)).fst)) (IntKind.i64.wrap (IntKind.i64.wrap (IntKind.i64.wrap (valF (partF b (2 : Int) (↑(Int.toNat (2 : Int)) : Int)).fst) + (↑(padN (IntKind.i64.wrap (valF (partF b (2 : Int) (↑(Int.toNat (2 : Int)) : Int)).fst)).toNat) : Int)) - IntKind.i64.wrap (valF (partF b (2 : Int) (↑(Int.toNat (2 : Int)) : Int)).fst)))).snd = (0 : Int))) ((0 : Int) = (firstF b).fst.t ∧
  (0 : Int) = (firstF b).fst.f ∧ (firstF b).fst.v = [] ∧ (0 : Int) = (↑(firstF b).snd.fst : Int) ∧ (partF b (IntKind.i64.wrap (valF (partF b (2 : Int) (↑(Int.toNat (2 : Int)) : Int)).fst)) (IntKind.i64.wrap (IntKind.i64.wrap (IntKind.i64.wrap (valF (partF b (2 : Int) (↑(Int.toNat (2 : Int)) : Int)).fst) + (↑(padN (IntKind.i64.wrap (valF (partF b (2 : Int) (↑(Int.toNat (2 : Int)) : Int)).fst)).toNat) : Int)) - IntKind.i64.wrap (valF (partF b (2 : Int) (↑(Int.toNat (2 : Int)) : Int)).fst)))).snd = (firstF b).snd.snd ∧
  (true && true) = true) ((∃ (l : List Int), [O.d (D.ints IntKind.u8 (partF b (IntKind.i64.wrap (valF (partF b (2 : Int) (↑(Int.toNat (2 : Int)) : Int)).fst)) (IntKind.i64.wrap (IntKind.i64.wrap (IntKind.i64.wrap (valF (partF b (2 : Int) (↑(Int.toNat (2 : Int)) : Int)).fst) + (↑(padN (IntKind.i64.wrap (valF (partF b (2 : Int) (↑(Int.toNat (2 : Int)) : Int)).fst)).toNat) : Int)) - IntKind.i64.wrap (valF (partF b (2 : Int) (↑(Int.toNat (2 : Int)) : Int)).fst)))).fst), O.d (D.fn (48 : Nat) (0 : Nat) (0 : Nat) fun (i : Nat) => [].getD i (D.v undef))] = [O.d (D.ints IntKind.u8 l), O.d (D.fn (48 : Nat) (0 : Nat) (0 : Nat) fun (i : Nat) => [].getD i (D.v undef))] ∧
  sm l.length) ∧ sw (someNZ (partF b (IntKind.i64.wrap (valF (partF b (2 : Int) (↑(Int.toNat (2 : Int)) : Int)).fst)) (IntKind.i64.wrap (IntKind.i64.wrap (IntKind.i64.wrap (valF (partF b (2 : Int) (↑(Int.toNat (2 : Int)) : Int)).fst) + (↑(padN (IntKind.i64.wrap (valF (partF b (2 : Int) (↑(Int.toNat (2 : Int)) : Int)).fst)).toNat) : Int)) - IntKind.i64.wrap (valF (partF b (2 : Int) (↑(Int.toNat (2 : Int)) : Int)).fst)))).fst) ((0 : Int) = (firstF b).fst.t ∧
  (0 : Int) = (firstF b).fst.f ∧ (firstF b).fst.v = [] ∧ (0 : Int) = (↑(firstF b).snd.fst : Int) ∧ (2 : Int) = (firstF b).snd.snd ∧ (true && true) = true) (((0 : Int) ≤ (0 : Int) ∧
  (0 : Int) < (↑b.length : Int)) ∧ ((0 : Int) ≤ (1 : Int) ∧ (1 : Int) < (↑b.length : Int)) ∧ ((0 : Int) ≤ (4 : Int) ∧ (4 : Int) ≤ IntKind.i64.wrap (valF (partF b (2 : Int) (↑(Int.toNat (2 : Int)) : Int)).fst) ∧
  IntKind.i64.wrap (valF (partF b (2 : Int) (↑(Int.toNat (2 : Int)) : Int)).fst) ≤ (↑b.length : Int)) ∧ ((∃ (l : List Int), [O.d (D.ints IntKind.u8 (List.take ((IntKind.i64.wrap (valF (partF b (2 : Int) (↑(Int.toNat (2 : Int)) : Int)).fst)).toNat - Int.toNat (4 : Int)) (List.drop (Int.toNat (4 : Int)) b)))] = [O.d (D.ints IntKind.u8 l)] ∧
  sm l.length) ∧ (b.getD (Int.toNat (0 : Int)) (0 : Int) = (firstF b).fst.t ∧ b.getD (Int.toNat (1 : Int)) (0 : Int) = (firstF b).fst.f ∧ List.take ((IntKind.i64.wrap (valF (partF b (2 : Int) (↑(Int.toNat (2 : Int)) : Int)).fst)).toNat - Int.toNat (4 : Int)) (List.drop (Int.toNat (4 : Int)) b) = (firstF b).fst.v ∧
  IntKind.i64.wrap (IntKind.i64.wrap (valF (partF b (2 : Int) (↑(Int.toNat (2 : Int)) : Int)).fst) + (↑(padN (IntKind.i64.wrap (valF (partF b (2 : Int) (↑(Int.toNat (2 : Int)) : Int)).fst)).toNat) : Int)) = (↑(firstF b).snd.fst : Int) ∧
  (0 : Int) = (firstF b).snd.snd ∧ (!false && true && true) = true) ∧ True) ∧ True)))) := by
  simp only [↓sw_iff, ↓Bool.and_eq_true, ↓decide_eq_true_eq, ↓decide_eq_false_iff_not, ↓Bool.not_eq_true', ↓Bool.not_eq_false', true_and, and_true, toNat2, toNat4, toNat0, toNat1]
  intro b h hb
  have h' := h
  unfold sm at h'
  refine ⟨fun t => by rw [first_short (by omega)]; exact ⟨rfl, rfl, rfl, rfl, rfl⟩, fun t => ?_⟩
  have hp : partF b 2 ((2 : Nat) : Int) = ((b.drop 2).take 2, 0) := part_get (by omega) (by omega) (by omega) (by omega)
  obtain ⟨n0, n1⟩ := num_lt hb
  have hn : valF ((b.drop 2).take 2) = (numF b : Int) := by unfold numF; omega
  have hpl := padN_le (numF b)
  have hn1 : numF b < 65536 := by omega
  have h0 : ¬ b.length < 4 := by omega
  have e1 : IntKind.i64.wrap (numF b : Int) = (numF b : Int) := wrap_i64_id (by omega) (by omega)
  have e2 : IntKind.i64.wrap ((numF b : Int) + (padN (numF b) : Int)) = ((numF b + padN (numF b) : Nat) : Int) := by rw [wrap_i64_id (by omega) (by omega)]; omega
  have e3 : IntKind.i64.wrap (((numF b + padN (numF b) : Nat) : Int) - (numF b : Int)) = (padN (numF b) : Int) := by rw [wrap_i64_id (by omega) (by omega)]; omega
  rw [hp]
  simp only [hn, e1, Int.toNat_natCast, e2, e3]
  refine ⟨⟨b, 2, 2, rfl, h, hb, by unfold okI; omega, by omega, by omega⟩, fun t1 => by rw [first_form h0 (by omega)]; exact ⟨rfl, rfl, rfl, rfl, rfl⟩, fun t1 => ⟨⟨numF b, rfl, by omega⟩, ⟨b, _, _, rfl, h, by unfold okI; omega, by unfold okI; omega⟩, ?_, ?_⟩⟩
  · intro t2
    have h2 : b.length < numF b + padN (numF b) := by
      refine Nat.lt_of_not_le fun hle => t2 ?_
      rw [part_get (by omega) (by omega) (by omega) (by omega)]
    rw [first_short2 h0 (by omega) h2]
    have : (partF b (numF b : Int) (padN (numF b) : Int)).2 = 3 := by
      unfold partF; rw [if_neg (by omega), if_pos (by omega)]
    exact ⟨rfl, rfl, rfl, rfl, this⟩
  · intro t2
    have h2 : ¬ b.length < numF b + padN (numF b) := fun hlt => by
      unfold partF at t2
      rw [if_neg (by omega), if_pos (by omega)] at t2
      cases t2
    have hq : partF b (numF b : Int) (padN (numF b) : Int) = ((b.drop (numF b)).take (padN (numF b)), 0) := part_get (by omega) (by omega) (by omega) (by omega)
    rw [hq]
    have hl : ((b.drop (numF b)).take (padN (numF b))).length ≤ padN (numF b) := List.length_take_le _ _
    refine ⟨⟨_, rfl, by unfold sm; simp only; omega⟩, fun t3 => by rw [first_form2 h0 (by omega) h2 t3]; exact ⟨rfl, rfl, rfl, rfl, rfl⟩, fun t3 => ?_⟩
    rw [first_ok h0 (by omega) h2 t3]
    have hl2 : ((b.drop 4).take (numF b - 4)).length ≤ b.length := by rw [List.length_take, List.length_drop]; omega
    exact ⟨⟨by omega, by omega⟩, ⟨by omega, by omega⟩, ⟨by omega, by omega, by omega⟩, ⟨_, rfl, by unfold sm; omega⟩, rfl, rfl, rfl, rfl, rfl⟩
set_option maxRecDepth 100000 in
theorem ok35 : FnIs Tryd.prog 35 firstC := by
  refine fnIs (C := (ctrs c7)) (by kernel_rfl) c7_ok Tryd.func35 (code := code35) (by kernel_rfl) (by kernel_rfl) ?_
  rintro a ⟨b, rfl, h, hb⟩
  exact ⟨anns [], kcast (vc35 b h hb) (by kernel_rfl)⟩

theorem c8_ok : COk Tryd.prog (ctrs c8) := cok_cons ok35 cok_nil

noncomputable def code19 : Code := match Tryd.f19.body with | some c => c | none => .skip
set_option maxHeartbeats 4000000 in
theorem vc19 : ∀ (b : List Int), sm b.length → okB b → True ∧ sw (decide ((4096 : Int) < (↑b.length : Int))) ((getR b).fst.length = (0 : Nat) ∧ (4 : Int) = (getR b).snd ∧
  (true && true) = true) (∃ (g0 : List ChR × List Int), (g0.fst.length ≤ (32 : Nat) ∧ g0.snd.length ≤ (4096 : Nat) ∧ okB g0.snd ∧ getG ((33 : Nat) - g0.fst.length) g0.fst g0.snd = getG (33 : Nat) [] b) ∧
  g0.fst.length = (0 : Nat) ∧ b = g0.snd ∧ (true && true) = true ∧ ∀ (g : List ChR × List Int), g.fst.length ≤ (32 : Nat) ∧ g.snd.length ≤ (4096 : Nat) ∧
  okB g.snd ∧ getG ((33 : Nat) - g.fst.length) g.fst g.snd = getG (33 : Nat) [] b → True ∧ sw (decide ((0 : Int) < (↑g.snd.length : Int))) (True ∧ sw (decide ((32 : Int) ≤ (↑g.fst.length : Int))) ((getR b).fst.length = (0 : Nat) ∧
  (4 : Int) = (getR b).snd ∧ (true && true) = true) ((∃ (b_1 : List Int), [O.d (D.ints IntKind.u8 g.snd)] = [O.d (D.ints IntKind.u8 b_1)] ∧ sm b_1.length ∧
  okB b_1) ∧ True ∧ sw (!decide ((firstF g.snd).snd.snd = (0 : Int))) ((getR b).fst.length = (0 : Nat) ∧ (firstF g.snd).snd.snd = (getR b).snd ∧ (true && true) = true) (True ∧
  (g.fst.length + (1 : Nat)) * Tryd.prog.types[(28 : Nat)].bytes ≤ (140737488355328 : Nat) ∧ ((0 : Int) ≤ (↑(firstF g.snd).snd.fst : Int) ∧ (↑(firstF g.snd).snd.fst : Int) ≤ (↑g.snd.length : Int)) ∧
  ∃ (g' : List ChR × List Int), (g'.fst.length ≤ (32 : Nat) ∧ g'.snd.length ≤ (4096 : Nat) ∧ okB g'.snd ∧ getG ((33 : Nat) - g'.fst.length) g'.fst g'.snd = getG (33 : Nat) [] b) ∧
  (33 : Nat) - g'.fst.length < (33 : Nat) - g.fst.length ∧ ((g.fst.length + (1 : Nat) = g'.fst.length ∧ ∀ (i : Nat), i < g.fst.length + (1 : Nat) → ∀ (j : Nat), j < (3 : Nat) →
  (bif i.blt g.fst.length then chCell g.fst i j else [D.v (Value.int IntKind.u8 (firstF g.snd).fst.t), D.v (Value.int IntKind.u8 (firstF g.snd).fst.f), D.ints IntKind.u8 (firstF g.snd).fst.v].getD ((i - g.fst.length) * Tryd.prog.types[(28 : Nat)].size + j) (D.v undef)) = chCell g'.fst i j) ∧
  List.drop (↑(firstF g.snd).snd.fst : Int).toNat g.snd = g'.snd ∧ (!false && true && true && ((Nat.ble (1 : Nat) (6 : Nat) || false) && true)) = true) ∧
  (some (SV.c (Value.bool (decide ((4096 : Int) < (↑b.length : Int))))) = some (SV.c (Value.bool (decide ((4096 : Int) < (↑b.length : Int))))) ∧ some (SV.c (Value.int IntKind.i64 (↑b.length : Int))) = some (SV.c (Value.int IntKind.i64 (↑b.length : Int))) ∧
  some (SV.a (0 : Nat)) = some (SV.a (0 : Nat)) ∧ True) ∧ some (R.ro (D.ints IntKind.u8 b)) = some (R.ro (D.ints IntKind.u8 b)) ∧ True))) ((g.fst.length = (getR b).fst.length ∧
  ∀ (i : Nat), i < g.fst.length → ∀ (j : Nat), j < (3 : Nat) → chCell g.fst i j = chCell (getR b).fst i j) ∧ (0 : Int) = (getR b).snd ∧ (!false && true && true) = true)) := by
  simp only [↓sw_iff, ↓Bool.and_eq_true, ↓decide_eq_true_eq, ↓decide_eq_false_iff_not, ↓Bool.not_eq_true', ↓Bool.not_eq_false', true_and, and_true, Bool.or_false, Nat.ble, Int.toNat_natCast, bytes28, size28]
  intro b h hb
  unfold sm at h
  refine ⟨fun t => by rw [getR_big (by omega)]; exact ⟨rfl, rfl⟩, fun t => ⟨([], b), ⟨Nat.zero_le _, by simp only; omega, hb, rfl⟩, rfl, rfl, ?_⟩⟩
  rw [getR_eq (by omega)]
  rintro ⟨l, r⟩ ⟨g1, g2, g3, g4⟩
  simp only at g1 g2 g3 g4 ⊢
  rw [← g4]
  have hf : 33 - l.length = 32 - l.length + 1 := by omega
  refine ⟨fun hlt => ⟨fun hful => ?_, fun hful => ⟨⟨r, rfl, by unfold sm; omega, g3⟩, fun he => ?_, fun he => ?_⟩⟩, fun hge => ?_⟩
  · rw [hf, getG_full (by omega) (by omega)]; exact ⟨rfl, rfl⟩
  · rw [hf, getG_err (by omega) (by omega) he]; exact ⟨rfl, rfl⟩
  · obtain ⟨a1, a2⟩ := first_all he
    refine ⟨by omega, ⟨by omega, by omega⟩, (l ++ [(firstF r).1], r.drop (firstF r).2.1), ⟨?_, ?_, okB_drop g3 _, ?_⟩, ?_, ⟨?_, ?_⟩, rfl⟩
    · simp only [List.length_append, List.length_singleton]; omega
    · simp only [List.length_drop]; omega
    · rw [hf, getG_step (by omega) (by omega) he]
      simp only [List.length_append, List.length_singleton]
      congr 1; omega
    · simp only [List.length_append, List.length_singleton]; omega
    · simp
    · intro i hi j hj
      exact app_ch _ _ hi hj
  · have : r = [] := List.length_eq_zero_iff.1 (by omega)
    subst this
    rw [hf, getG_nil]
    exact ⟨⟨rfl, fun _ _ _ _ => rfl⟩, rfl⟩
set_option maxRecDepth 100000 in
theorem ok19 : FnIs Tryd.prog 19 getsC := by
  refine fnIs (C := (ctrs c8)) (by kernel_rfl) c8_ok Tryd.func19 (code := code19) (by kernel_rfl) (by kernel_rfl) ?_
  rintro a ⟨b, rfl, h, hb⟩
  exact ⟨anns [(4, getAnn b)], kcast (vc19 b h hb) (by kernel_rfl)⟩

noncomputable def code41 : Code := match Tryd.f41.body with | some c => c | none => .skip
set_option maxHeartbeats 4000000 in
theorem vc41 : ∀ (c d : ChR), True ∧ sw (decide (c.t = d.t)) (SV.p (2 : Nat) (1 : Nat) = SV.p (2 : Nat) (1 : Nat)) True ∧ sw (decide (c.t = d.t)) ([decide (c.t = d.t)] = [decide (c.t = d.t)] ∧
  SV.c (Value.int IntKind.u8 c.f) = SV.c (Value.int IntKind.u8 c.f)) True ∧ sw (decide (c.t = d.t)) (SV.p (3 : Nat) (1 : Nat) = SV.p (3 : Nat) (1 : Nat)) True ∧
  sw (decide (c.t = d.t)) ([decide (c.t = d.t)] = [decide (c.t = d.t)] ∧ SV.c (Value.int IntKind.u8 d.f) = SV.c (Value.int IntKind.u8 d.f)) True ∧ sw (decide (c.t = d.t)) ([decide (c.t = d.t)] = [decide (c.t = d.t)] ∧
  [decide (c.t = d.t)] = [decide (c.t = d.t)] ∧ True ∧ SV.c (Value.bool (decide (c.f = d.f))) = SV.c (Value.bool (decide (c.f = d.f)))) True ∧ [decide (c.t = d.t)] = [decide (c.t = d.t)] ∧
  sw (decide (c.t = d.t) && decide (c.f = d.f)) (SV.p (2 : Nat) (2 : Nat) = SV.p (2 : Nat) (2 : Nat)) True ∧ sw (decide (c.t = d.t) && decide (c.f = d.f)) ([decide (c.t = d.t) && decide (c.f = d.f)] = [decide (c.t = d.t) && decide (c.f = d.f)] ∧
  SV.a (0 : Nat) = SV.a (0 : Nat)) True ∧ sw (decide (c.t = d.t) && decide (c.f = d.f)) ([decide (c.t = d.t) && decide (c.f = d.f)] = [decide (c.t = d.t) && decide (c.f = d.f)] ∧
  SV.c (Value.string (bstr c.v)) = SV.c (Value.string (bstr c.v))) True ∧ sw (decide (c.t = d.t) && decide (c.f = d.f)) (SV.p (3 : Nat) (2 : Nat) = SV.p (3 : Nat) (2 : Nat)) True ∧
  sw (decide (c.t = d.t) && decide (c.f = d.f)) ([decide (c.t = d.t) && decide (c.f = d.f)] = [decide (c.t = d.t) && decide (c.f = d.f)] ∧ SV.a (1 : Nat) = SV.a (1 : Nat)) True ∧
  sw (decide (c.t = d.t) && decide (c.f = d.f)) ([decide (c.t = d.t) && decide (c.f = d.f)] = [decide (c.t = d.t) && decide (c.f = d.f)] ∧ SV.c (Value.string (bstr d.v)) = SV.c (Value.string (bstr d.v))) True ∧
  sw (decide (c.t = d.t) && decide (c.f = d.f)) ([decide (c.t = d.t) && decide (c.f = d.f)] = [decide (c.t = d.t) && decide (c.f = d.f)] ∧ [decide (c.t = d.t) && decide (c.f = d.f)] = [decide (c.t = d.t) && decide (c.f = d.f)] ∧
  True ∧ SV.c (Value.bool (decide ((bstr c.v).data.toList = (bstr d.v).data.toList))) = SV.c (Value.bool (decide ((bstr c.v).data.toList = (bstr d.v).data.toList)))) True ∧
  [decide (c.t = d.t) && decide (c.f = d.f)] = [decide (c.t = d.t) && decide (c.f = d.f)] ∧ (decide (c.t = d.t) && decide (c.f = d.f) && decide ((bstr c.v).data.toList = (bstr d.v).data.toList)) = sameCh (ChR.mk c.t c.f c.v) (ChR.mk d.t d.f d.v) ∧
  (true && true) = true := by
  simp only [↓sw_iff, ↓Bool.and_eq_true, ↓Bool.and_eq_false_iff, ↓decide_eq_true_eq, ↓decide_eq_false_iff_not, true_and, and_true, implies_true, bytes_dec]
  intro c d
  rfl
set_option maxRecDepth 100000 in
theorem ok41 : FnIs Tryd.prog 41 sameC := by
  refine fnIs (C := (ctrs c0)) (by kernel_rfl) c0_ok Tryd.func41 (code := code41) (by kernel_rfl) (by kernel_rfl) ?_
  rintro a ⟨c, d, rfl⟩
  exact ⟨anns [], kcast (vc41 c d) (by kernel_rfl)⟩

theorem c10_ok : COk Tryd.prog (ctrs c10) := cok_cons ok41 cok_nil
theorem c9_ok : COk Tryd.prog (ctrs c9) := cok_cons ok23 (cok_cons ok38 cok_nil)

noncomputable def code22 : Code := match Tryd.f22.body with | some c => c | none => .skip
set_option maxHeartbeats 4000000 in
theorem vc22 : ∀ (b : List Int), sm b.length → okB b → True ∧ sw (decide ((4096 : Int) < (↑b.length : Int))) ((getR b).fst.length = (0 : Nat) ∧ (4 : Int) = (getR b).snd ∧
  (true && true) = true) (∃ (g0 : List ChR × Nat), (g0.fst.length ≤ (32 : Nat) ∧ g0.snd ≤ b.length ∧ getG ((33 : Nat) - g0.fst.length) g0.fst (List.drop g0.snd b) = getG (33 : Nat) [] b) ∧
  g0.fst.length = (0 : Nat) ∧ (0 : Int) = (↑g0.snd : Int) ∧ (true && true) = true ∧ ∀ (g : List ChR × Nat), g.fst.length ≤ (32 : Nat) ∧ g.snd ≤ b.length ∧
  getG ((33 : Nat) - g.fst.length) g.fst (List.drop g.snd b) = getG (33 : Nat) [] b → True ∧ sw (decide ((↑g.snd : Int) < (↑b.length : Int))) (True ∧ sw (decide ((32 : Int) ≤ (↑g.fst.length : Int))) ((getR b).fst.length = (0 : Nat) ∧
  (4 : Int) = (getR b).snd ∧ (true && true) = true) (True ∧ True ∧ sw (decide (IntKind.i64.wrap ((↑b.length : Int) - (↑g.snd : Int)) < (4 : Int))) ((getR b).fst.length = (0 : Nat) ∧
  (3 : Int) = (getR b).snd ∧ (true && true) = true) (True ∧ (∃ (b_1 : List Int), ∃ (i : Int), ∃ (k : Nat), [O.d (D.ints IntKind.u8 b), O.d (D.v (Value.int IntKind.i64 (IntKind.i64.wrap ((↑g.snd : Int) + (2 : Int))))), O.d (D.v (Value.int IntKind.i64 (2 : Int)))] = [O.d (D.ints IntKind.u8 b_1), O.d (D.v (Value.int IntKind.i64 i)), O.d (D.v (Value.int IntKind.i64 (↑k : Int)))] ∧
  sm b_1.length ∧ okB b_1 ∧ okI i ∧ (1 : Nat) ≤ k ∧ k ≤ (7 : Nat)) ∧ True ∧ sw (decide (valF (partF b (IntKind.i64.wrap ((↑g.snd : Int) + (2 : Int))) (↑(Int.toNat (2 : Int)) : Int)).fst < (4 : Int))) ((getR b).fst.length = (0 : Nat) ∧
  (2 : Int) = (getR b).snd ∧ (true && true) = true) (True ∧ (∃ (n : Nat), [O.d (D.v (Value.int IntKind.i64 (valF (partF b (IntKind.i64.wrap ((↑g.snd : Int) + (2 : Int))) (↑(Int.toNat (2 : Int)) : Int)).fst)))] = [O.d (D.v (Value.int IntKind.i64 (↑n : Int)))] ∧
  n ≤ (2199023255552 : Nat)) ∧ True ∧ True ∧ sw (decide ((↑b.length : Int) < IntKind.i64.wrap (IntKind.i64.wrap ((↑g.snd : Int) + valF (partF b (IntKind.i64.wrap ((↑g.snd : Int) + (2 : Int))) (↑(Int.toNat (2 : Int)) : Int)).fst) + (↑(padN (valF (partF b (IntKind.i64.wrap ((↑g.snd : Int) + (2 : Int))) (↑(Int.toNat (2 : Int)) : Int)).fst).toNat) : Int)))) ((getR b).fst.length = (0 : Nat) ∧
  (3 : Int) = (getR b).snd ∧ (true && true) = true) (True ∧ ∃ (p : Nat × Nat), ∃ (g0_1 : Nat), (p.fst ≤ g0_1 ∧ g0_1 ≤ p.snd ∧ ∀ (j : Nat), p.fst ≤ j → j < g0_1 →
  b.getD j (0 : Int) = (0 : Int)) ∧ IntKind.i64.wrap ((↑g.snd : Int) + valF (partF b (IntKind.i64.wrap ((↑g.snd : Int) + (2 : Int))) (↑(Int.toNat (2 : Int)) : Int)).fst) = (↑g0_1 : Int) ∧
  (true && true) = true ∧ ∀ (g_1 : Nat), (p.fst ≤ g_1 ∧ g_1 ≤ p.snd ∧ ∀ (j : Nat), p.fst ≤ j → j < g_1 → b.getD j (0 : Int) = (0 : Int)) → True ∧ sw (decide ((↑g_1 : Int) < IntKind.i64.wrap (IntKind.i64.wrap ((↑g.snd : Int) + valF (partF b (IntKind.i64.wrap ((↑g.snd : Int) + (2 : Int))) (↑(Int.toNat (2 : Int)) : Int)).fst) + (↑(padN (valF (partF b (IntKind.i64.wrap ((↑g.snd : Int) + (2 : Int))) (↑(Int.toNat (2 : Int)) : Int)).fst).toNat) : Int)))) (((0 : Int) ≤ (↑g_1 : Int) ∧
  (↑g_1 : Int) < (↑b.length : Int)) ∧ True ∧ sw (!decide (b.getD (↑g_1 : Int).toNat (0 : Int) = (0 : Int))) ((getR b).fst.length = (0 : Nat) ∧ (2 : Int) = (getR b).snd ∧
  (true && true) = true) (True ∧ ∃ (g' : Nat), (p.fst ≤ g' ∧ g' ≤ p.snd ∧ ∀ (j : Nat), p.fst ≤ j → j < g' → b.getD j (0 : Int) = (0 : Int)) ∧ p.snd - g' < p.snd - g_1 ∧
  (IntKind.i64.wrap ((↑g_1 : Int) + (1 : Int)) = (↑g' : Int) ∧ (true && true && true) = true) ∧ (some (SV.c (Value.int IntKind.i64 (IntKind.i64.wrap ((↑g.snd : Int) + valF (partF b (IntKind.i64.wrap ((↑g.snd : Int) + (2 : Int))) (↑(Int.toNat (2 : Int)) : Int)).fst)))) = some (SV.c (Value.int IntKind.i64 (IntKind.i64.wrap ((↑g.snd : Int) + valF (partF b (IntKind.i64.wrap ((↑g.snd : Int) + (2 : Int))) (↑(Int.toNat (2 : Int)) : Int)).fst)))) ∧
  some (SV.c (Value.int IntKind.i64 (valF (partF b (IntKind.i64.wrap ((↑g.snd : Int) + (2 : Int))) (↑(Int.toNat (2 : Int)) : Int)).fst))) = some (SV.c (Value.int IntKind.i64 (valF (partF b (IntKind.i64.wrap ((↑g.snd : Int) + (2 : Int))) (↑(Int.toNat (2 : Int)) : Int)).fst))) ∧
  some (SV.c (Value.int IntKind.i64 (↑g.snd : Int))) = some (SV.c (Value.int IntKind.i64 (↑g.snd : Int))) ∧ some (SV.c (Value.bool (decide ((↑b.length : Int) < IntKind.i64.wrap (IntKind.i64.wrap ((↑g.snd : Int) + valF (partF b (IntKind.i64.wrap ((↑g.snd : Int) + (2 : Int))) (↑(Int.toNat (2 : Int)) : Int)).fst) + (↑(padN (valF (partF b (IntKind.i64.wrap ((↑g.snd : Int) + (2 : Int))) (↑(Int.toNat (2 : Int)) : Int)).fst).toNat) : Int)))))) = some (SV.c (Value.bool (decide ((↑b.length : Int) < IntKind.i64.wrap (IntKind.i64.wrap ((↑g.snd : Int) + valF (partF b (IntKind.i64.wrap ((↑g.snd : Int) + (2 : Int))) (↑(Int.toNat (2 : Int)) : Int)).fst) + (↑(padN (valF (partF b (IntKind.i64.wrap ((↑g.snd : Int) + (2 : Int))) (↑(Int.toNat (2 : Int)) : Int)).fst).toNat) : Int)))))) ∧
  some (SV.c (Value.int IntKind.i64 (↑b.length : Int))) = some (SV.c (Value.int IntKind.i64 (↑b.length : Int))) ∧ some (SV.a (0 : Nat)) = some (SV.a (0 : Nat)) ∧
  some (SV.c (Value.int IntKind.i64 (IntKind.i64.wrap (IntKind.i64.wrap ((↑g.snd : Int) + valF (partF b (IntKind.i64.wrap ((↑g.snd : Int) + (2 : Int))) (↑(Int.toNat (2 : Int)) : Int)).fst) + (↑(padN (valF (partF b (IntKind.i64.wrap ((↑g.snd : Int) + (2 : Int))) (↑(Int.toNat (2 : Int)) : Int)).fst).toNat) : Int))))) = some (SV.c (Value.int IntKind.i64 (IntKind.i64.wrap (IntKind.i64.wrap ((↑g.snd : Int) + valF (partF b (IntKind.i64.wrap ((↑g.snd : Int) + (2 : Int))) (↑(Int.toNat (2 : Int)) : Int)).fst) + (↑(padN (valF (partF b (IntKind.i64.wrap ((↑g.snd : Int) + (2 : Int))) (↑(Int.toNat (2 : Int)) : Int)).fst).toNat) : Int))))) ∧
  some (SV.c (Value.int IntKind.i64 (IntKind.i64.wrap (IntKind.i64.wrap ((↑g.snd : Int) + valF (partF b (IntKind.i64.wrap ((↑g.snd : Int) + (2 : Int))) (↑(Int.toNat (2 : Int)) : Int)).fst) + (↑(padN (valF (partF b (IntKind.i64.wrap ((↑g.snd : Int) + (2 : Int))) (↑(Int.toNat (2 : Int)) : Int)).fst).toNat) : Int))))) = some (SV.c (Value.int IntKind.i64 (IntKind.i64.wrap (IntKind.i64.wrap ((↑g.snd : Int) + valF (partF b (IntKind.i64.wrap ((↑g.snd : Int) + (2 : Int))) (↑(Int.toNat (2 : Int)) : Int)).fst) + (↑(padN (valF (partF b (IntKind.i64.wrap ((↑g.snd : Int) + (2 : Int))) (↑(Int.toNat (2 : Int)) : Int)).fst).toNat) : Int))))) ∧
  some (SV.c (Value.int IntKind.i64 (IntKind.i64.wrap (IntKind.i64.wrap ((↑g.snd : Int) + valF (partF b (IntKind.i64.wrap ((↑g.snd : Int) + (2 : Int))) (↑(Int.toNat (2 : Int)) : Int)).fst) + (↑(padN (valF (partF b (IntKind.i64.wrap ((↑g.snd : Int) + (2 : Int))) (↑(Int.toNat (2 : Int)) : Int)).fst).toNat) : Int))))) = some (SV.c (Value.int IntKind.i64 (IntKind.i64.wrap (IntKind.i64.wrap ((↑g.snd : Int) + valF (partF b (IntKind.i64.wrap ((↑g.snd : Int) + (2 : Int))) (↑(Int.toNat (2 : Int)) : Int)).fst) + (↑(padN (valF (partF b (IntKind.i64.wrap ((↑g.snd : Int) + (2 : Int))) (↑(Int.toNat (2 : Int)) : Int)).fst).toNat) : Int))))) ∧
  some (SV.c (Value.int IntKind.i64 (↑(padN (valF (partF b (IntKind.i64.wrap ((↑g.snd : Int) + (2 : Int))) (↑(Int.toNat (2 : Int)) : Int)).fst).toNat) : Int))) = some (SV.c (Value.int IntKind.i64 (↑(padN (valF (partF b (IntKind.i64.wrap ((↑g.snd : Int) + (2 : Int))) (↑(Int.toNat (2 : Int)) : Int)).fst).toNat) : Int))) ∧
  some (SV.c (Value.int IntKind.i64 (valF (partF b (IntKind.i64.wrap ((↑g.snd : Int) + (2 : Int))) (↑(Int.toNat (2 : Int)) : Int)).fst))) = some (SV.c (Value.int IntKind.i64 (valF (partF b (IntKind.i64.wrap ((↑g.snd : Int) + (2 : Int))) (↑(Int.toNat (2 : Int)) : Int)).fst))) ∧
  some (SV.c (Value.int IntKind.i64 (IntKind.i64.wrap ((↑g.snd : Int) + valF (partF b (IntKind.i64.wrap ((↑g.snd : Int) + (2 : Int))) (↑(Int.toNat (2 : Int)) : Int)).fst)))) = some (SV.c (Value.int IntKind.i64 (IntKind.i64.wrap ((↑g.snd : Int) + valF (partF b (IntKind.i64.wrap ((↑g.snd : Int) + (2 : Int))) (↑(Int.toNat (2 : Int)) : Int)).fst)))) ∧
  some (SV.c (Value.int IntKind.i64 (valF (partF b (IntKind.i64.wrap ((↑g.snd : Int) + (2 : Int))) (↑(Int.toNat (2 : Int)) : Int)).fst))) = some (SV.c (Value.int IntKind.i64 (valF (partF b (IntKind.i64.wrap ((↑g.snd : Int) + (2 : Int))) (↑(Int.toNat (2 : Int)) : Int)).fst))) ∧
  some (SV.c (Value.int IntKind.i64 (↑g.snd : Int))) = some (SV.c (Value.int IntKind.i64 (↑g.snd : Int))) ∧ some (SV.c (Value.bool (decide (valF (partF b (IntKind.i64.wrap ((↑g.snd : Int) + (2 : Int))) (↑(Int.toNat (2 : Int)) : Int)).fst < (4 : Int))))) = some (SV.c (Value.bool (decide (valF (partF b (IntKind.i64.wrap ((↑g.snd : Int) + (2 : Int))) (↑(Int.toNat (2 : Int)) : Int)).fst < (4 : Int))))) ∧
  some (SV.c (Value.int IntKind.i64 (valF (partF b (IntKind.i64.wrap ((↑g.snd : Int) + (2 : Int))) (↑(Int.toNat (2 : Int)) : Int)).fst))) = some (SV.c (Value.int IntKind.i64 (valF (partF b (IntKind.i64.wrap ((↑g.snd : Int) + (2 : Int))) (↑(Int.toNat (2 : Int)) : Int)).fst))) ∧
  some (SV.c (Value.int IntKind.i64 (valF (partF b (IntKind.i64.wrap ((↑g.snd : Int) + (2 : Int))) (↑(Int.toNat (2 : Int)) : Int)).fst))) = some (SV.c (Value.int IntKind.i64 (valF (partF b (IntKind.i64.wrap ((↑g.snd : Int) + (2 : Int))) (↑(Int.toNat (2 : Int)) : Int)).fst))) ∧
  some (SV.c (Value.int IntKind.i64 (valF (partF b (IntKind.i64.wrap ((↑g.snd : Int) + (2 : Int))) (↑(Int.toNat (2 : Int)) : Int)).fst))) = some (SV.c (Value.int IntKind.i64 (valF (partF b (IntKind.i64.wrap ((↑g.snd : Int) + (2 : Int))) (↑(Int.toNat (2 : Int)) : Int)).fst))) ∧
  some (SV.c (Value.int IntKind.i64 (IntKind.i64.wrap ((↑g.snd : Int) + (2 : Int))))) = some (SV.c (Value.int IntKind.i64 (IntKind.i64.wrap ((↑g.snd : Int) + (2 : Int))))) ∧
  some (SV.c (Value.int IntKind.i64 (↑g.snd : Int))) = some (SV.c (Value.int IntKind.i64 (↑g.snd : Int))) ∧ some (SV.a (0 : Nat)) = some (SV.a (0 : Nat)) ∧
  some (SV.c (Value.bool (decide (IntKind.i64.wrap ((↑b.length : Int) - (↑g.snd : Int)) < (4 : Int))))) = some (SV.c (Value.bool (decide (IntKind.i64.wrap ((↑b.length : Int) - (↑g.snd : Int)) < (4 : Int))))) ∧
  some (SV.c (Value.int IntKind.i64 (IntKind.i64.wrap ((↑b.length : Int) - (↑g.snd : Int))))) = some (SV.c (Value.int IntKind.i64 (IntKind.i64.wrap ((↑b.length : Int) - (↑g.snd : Int))))) ∧
  some (SV.c (Value.int IntKind.i64 (↑g.snd : Int))) = some (SV.c (Value.int IntKind.i64 (↑g.snd : Int))) ∧ some (SV.c (Value.int IntKind.i64 (↑b.length : Int))) = some (SV.c (Value.int IntKind.i64 (↑b.length : Int))) ∧
  some (SV.a (0 : Nat)) = some (SV.a (0 : Nat)) ∧ some (SV.c (Value.bool (decide ((32 : Int) ≤ (↑g.fst.length : Int))))) = some (SV.c (Value.bool (decide ((32 : Int) ≤ (↑g.fst.length : Int))))) ∧
  some (SV.c (Value.int IntKind.i64 (↑g.fst.length : Int))) = some (SV.c (Value.int IntKind.i64 (↑g.fst.length : Int))) ∧ some (SV.a (1 : Nat)) = some (SV.a (1 : Nat)) ∧
  some (SV.c (Value.bool (decide ((↑g.snd : Int) < (↑b.length : Int))))) = some (SV.c (Value.bool (decide ((↑g.snd : Int) < (↑b.length : Int))))) ∧ some (SV.c (Value.int IntKind.i64 (↑b.length : Int))) = some (SV.c (Value.int IntKind.i64 (↑b.length : Int))) ∧
  some (SV.a (0 : Nat)) = some (SV.a (0 : Nat)) ∧ some (SV.c (Value.int IntKind.i64 (↑g.snd : Int))) = some (SV.c (Value.int IntKind.i64 (↑g.snd : Int))) ∧
  some (SV.a (1 : Nat)) = some (SV.a (1 : Nat)) ∧ some (SV.c (Value.int IntKind.i64 (↑g.snd : Int))) = some (SV.c (Value.int IntKind.i64 (↑g.snd : Int))) ∧
  some (SV.c (Value.bool (decide ((4096 : Int) < (↑b.length : Int))))) = some (SV.c (Value.bool (decide ((4096 : Int) < (↑b.length : Int))))) ∧ some (SV.c (Value.int IntKind.i64 (↑b.length : Int))) = some (SV.c (Value.int IntKind.i64 (↑b.length : Int))) ∧
  some (SV.a (0 : Nat)) = some (SV.a (0 : Nat)) ∧ some (SV.a (0 : Nat)) = some (SV.a (0 : Nat)) ∧ True) ∧ some (R.own (28 : Nat) (D.recs (3 : Nat) g.fst.length (chCell g.fst))) = some (R.own (28 : Nat) (D.recs (3 : Nat) g.fst.length (chCell g.fst))) ∧
  some (R.ro (D.ints IntKind.u8 b)) = some (R.ro (D.ints IntKind.u8 b)) ∧ True)) (((0 : Int) ≤ (↑g.snd : Int) ∧ (↑g.snd : Int) < (↑b.length : Int)) ∧ True ∧
  ((0 : Int) ≤ IntKind.i64.wrap ((↑g.snd : Int) + (1 : Int)) ∧ IntKind.i64.wrap ((↑g.snd : Int) + (1 : Int)) < (↑b.length : Int)) ∧ True ∧ True ∧ ((0 : Int) ≤ IntKind.i64.wrap ((↑g.snd : Int) + (4 : Int)) ∧
  IntKind.i64.wrap ((↑g.snd : Int) + (4 : Int)) ≤ IntKind.i64.wrap ((↑g.snd : Int) + valF (partF b (IntKind.i64.wrap ((↑g.snd : Int) + (2 : Int))) (↑(Int.toNat (2 : Int)) : Int)).fst) ∧
  IntKind.i64.wrap ((↑g.snd : Int) + valF (partF b (IntKind.i64.wrap ((↑g.snd : Int) + (2 : Int))) (↑(Int.toNat (2 : Int)) : Int)).fst) ≤ (↑b.length : Int)) ∧
  ((True ∧ ((0 : Nat) + (List.take ((IntKind.i64.wrap ((↑g.snd : Int) + valF (partF b (IntKind.i64.wrap ((↑g.snd : Int) + (2 : Int))) (↑(Int.toNat (2 : Int)) : Int)).fst)).toNat - (IntKind.i64.wrap ((↑g.snd : Int) + (4 : Int))).toNat) (List.drop (IntKind.i64.wrap ((↑g.snd : Int) + (4 : Int))).toNat b)).length) * Tryd.prog.types[(5 : Nat)].bytes ≤ (140737488355328 : Nat) ∧
  ((True ∧ (g.fst.length + (1 : Nat)) * Tryd.prog.types[(28 : Nat)].bytes ≤ (140737488355328 : Nat) ∧ ∃ (g' : List ChR × Nat), (g'.fst.length ≤ (32 : Nat) ∧
  g'.snd ≤ b.length ∧ getG ((33 : Nat) - g'.fst.length) g'.fst (List.drop g'.snd b) = getG (33 : Nat) [] b) ∧ (33 : Nat) - g'.fst.length < (33 : Nat) - g.fst.length ∧
  ((g.fst.length + (1 : Nat) = g'.fst.length ∧ ∀ (i : Nat), i < g.fst.length + (1 : Nat) → ∀ (j : Nat), j < (3 : Nat) → (bif i.blt g.fst.length then chCell g.fst i j else [D.v (Value.int IntKind.u8 (b.getD (↑g.snd : Int).toNat (0 : Int))), D.v (Value.int IntKind.u8 (b.getD (IntKind.i64.wrap ((↑g.snd : Int) + (1 : Int))).toNat (0 : Int))), D.ints IntKind.u8 ([] ++ List.take ((IntKind.i64.wrap ((↑g.snd : Int) + valF (partF b (IntKind.i64.wrap ((↑g.snd : Int) + (2 : Int))) (↑(Int.toNat (2 : Int)) : Int)).fst)).toNat - (IntKind.i64.wrap ((↑g.snd : Int) + (4 : Int))).toNat) (List.drop (IntKind.i64.wrap ((↑g.snd : Int) + (4 : Int))).toNat b))].getD ((i - g.fst.length) * Tryd.prog.types[(28 : Nat)].size + j) (D.v undef)) = chCell g'.fst i j) ∧
  IntKind.i64.wrap (IntKind.i64.wrap ((↑g.snd : Int) + valF (partF b (IntKind.i64.wrap ((↑g.snd : Int) + (2 : Int))) (↑(Int.toNat (2 : Int)) : Int)).fst) + (↑(padN (valF (partF b (IntKind.i64.wrap ((↑g.snd : Int) + (2 : Int))) (↑(Int.toNat (2 : Int)) : Int)).fst).toNat) : Int)) = (↑g'.snd : Int) ∧
  (!false && true && true && ((Nat.ble (1 : Nat) (6 : Nat) || false) && true)) = true) ∧ (some (SV.c (Value.bool (decide ((4096 : Int) < (↑b.length : Int))))) = some (SV.c (Value.bool (decide ((4096 : Int) < (↑b.length : Int))))) ∧
  some (SV.c (Value.int IntKind.i64 (↑b.length : Int))) = some (SV.c (Value.int IntKind.i64 (↑b.length : Int))) ∧ some (SV.a (0 : Nat)) = some (SV.a (0 : Nat)) ∧
  some (SV.a (0 : Nat)) = some (SV.a (0 : Nat)) ∧ True) ∧ some (R.ro (D.ints IntKind.u8 b)) = some (R.ro (D.ints IntKind.u8 b)) ∧ True) ∧ True) ∧ True) ∧
  True) ∧ True)))))) ((g.fst.length = (getR b).fst.length ∧ ∀ (i : Nat), i < g.fst.length → ∀ (j : Nat), j < (3 : Nat) → chCell g.fst i j = chCell (getR b).fst i j) ∧
  (0 : Int) = (getR b).snd ∧ (!false && true && true) = true)) := by
  simp only [↓sw_iff, ↓Bool.and_eq_true, ↓decide_eq_true_eq, ↓decide_eq_false_iff_not, ↓Bool.not_eq_true', ↓Bool.not_eq_false', true_and, and_true, Bool.or_false, Nat.ble, Int.toNat_natCast, Nat.zero_add, List.nil_append, Nat.mul_one, bytes5, bytes28, size28, toNat2]
  intro b h hb
  have h' := h
  unfold sm at h'
  refine ⟨fun t => by rw [getR_big (by omega)]; exact ⟨rfl, rfl⟩, fun t => ⟨([], 0), ⟨Nat.zero_le _, Nat.zero_le _, rfl⟩, rfl, rfl, ?_⟩⟩
  rw [getR_eq (by omega)]
  rintro ⟨l, p⟩ ⟨g1, g2, g4⟩
  simp only at g1 g2 g4 ⊢
  rw [← g4]
  have hf : 33 - l.length = 32 - l.length + 1 := by omega
  have hrl : (b.drop p).length = b.length - p := List.length_drop
  have hr : okB (b.drop p) := okB_drop hb p
  have e0 : IntKind.i64.wrap ((b.length : Int) - (p : Int)) = (b.length : Int) - p := wrap_i64_id (by omega) (by omega)
  have e1 : IntKind.i64.wrap ((p : Int) + 2) = ((p + 2 : Nat) : Int) := by rw [wrap_i64_id (by omega) (by omega)]; rfl
  rw [e0, e1]
  refine ⟨fun hlt => ⟨fun hful => ?_, fun hful => ?_⟩, fun hge => ?_⟩
  · rw [hf, getG_full (by omega) (by omega)]; exact ⟨rfl, rfl⟩
  · rw [hf]
    have err : ∀ {e : Int}, (firstF (b.drop p)).2.2 = e → ¬ e = 0 → (getG (32 - l.length + 1) l (b.drop p)).1.length = 0 ∧ e = (getG (32 - l.length + 1) l (b.drop p)).2 := fun he h0 => by
      rw [getG_err (by omega) (by omega) (by rw [he]; exact h0)]; exact ⟨rfl, he.symm⟩
    refine ⟨fun ht => err (by rw [first_short (by omega)]) (by decide), fun ht => ?_⟩
    have h4 : ¬ (b.drop p).length < 4 := by omega
    have hp : partF b ((p + 2 : Nat) : Int) ((2 : Nat) : Int) = ((b.drop (p + 2)).take 2, 0) := part_get (by omega) (by omega) (by omega) (by omega)
    obtain ⟨n0, n1⟩ := num_lt hr
    have hn : valF ((b.drop (p + 2)).take 2) = (numF (b.drop p) : Int) := by rw [← List.drop_drop]; unfold numF; omega
    have hn1 : numF (b.drop p) < 65536 := by unfold numF; omega
    rw [hp]
    simp only [hn]
    generalize hnn : numF (b.drop p) = n at hn1 ⊢
    have hpl := padN_le n
    have e2 : IntKind.i64.wrap ((p : Int) + (n : Int)) = ((p + n : Nat) : Int) := by rw [wrap_i64_id (by omega) (by omega)]; rfl
    have e3 : IntKind.i64.wrap (((p + n : Nat) : Int) + (padN n : Int)) = ((p + n + padN n : Nat) : Int) := by rw [wrap_i64_id (by omega) (by omega)]; rfl
    have e4 : IntKind.i64.wrap ((p : Int) + 4) = ((p + 4 : Nat) : Int) := by rw [wrap_i64_id (by omega) (by omega)]; rfl
    have e5 : IntKind.i64.wrap ((p : Int) + 1) = ((p + 1 : Nat) : Int) := by rw [wrap_i64_id (by omega) (by omega)]; rfl
    simp only [e2, Int.toNat_natCast, e3, e4, e5]
    refine ⟨⟨b, _, 2, rfl, h, hb, by unfold okI; omega, by omega, by omega⟩, fun t1 => err (by rw [first_form h4 (by omega)]) (by decide), fun t1 => ⟨⟨n, rfl, by omega⟩, fun t2 => err (by rw [first_short2 h4 (by omega) (by rw [hnn]; omega)]) (by decide), fun t2 => ?_⟩⟩
    refine ⟨(p + n, p + n + padN n), p + n, ⟨Nat.le_refl _, Nat.le_add_right _ _, fun j a1 a2 => by omega⟩, rfl, ?_⟩
    rintro j ⟨j1, j2, j3⟩
    simp only at j1 j2 j3 ⊢
    have hdd : ∀ k, (b.drop p).drop k = b.drop (p + k) := fun k => by rw [List.drop_drop]
    refine ⟨fun hj => ⟨⟨by omega, by omega⟩, fun hx => ?_, fun hx => ⟨j + 1, ⟨by omega, by omega, fun i a1 a2 => ?_⟩, by omega, by rw [wrap_i64_id (by omega) (by omega)]; rfl⟩⟩, fun hj => ?_⟩
    · refine err ?_ (by decide)
      rw [first_form2 h4 (by omega) (by rw [hnn]; omega)]
      rw [hnn, hdd]
      exact nz_true hb j1 (by omega) (by omega) hx
    · by_cases e : i = j
      · subst e; exact hx
      · exact j3 i a1 (by omega)
    · have hz : someNZ (((b.drop p).drop (numF (b.drop p))).take (padN (numF (b.drop p)))) = false := by
        rw [hnn, hdd]; exact nz_false fun i a1 a2 => j3 i a1 (by omega)
      have hfo := first_ok h4 (by omega) (by rw [hnn]; omega) hz
      rw [hnn, getD_drop, getD_drop, hdd, Nat.add_zero] at hfo
      have hl2 : ((b.drop (p + 4)).take (p + n - (p + 4))).length ≤ b.length := by rw [List.length_take, List.length_drop]; omega
      have e6 : p + n - (p + 4) = n - 4 := by omega
      refine ⟨⟨by omega, by omega⟩, ⟨by omega, by omega⟩, ⟨by omega, by omega, by omega⟩, by omega, by omega, (l ++ [(firstF (b.drop p)).1], p + n + padN n), ⟨?_, by simp only; omega, ?_⟩, ?_, ⟨?_, ?_⟩, rfl⟩
      · simp only [List.length_append, List.length_singleton]; omega
      · rw [getG_step (by omega) (by omega) (by rw [hfo]), hdd]
        simp only [List.length_append, List.length_singleton]
        rw [show 33 - (l.length + 1) = 32 - l.length by omega, hfo]
        simp only
        rw [show p + (n + padN n) = p + n + padN n by omega]
      · simp only [List.length_append, List.length_singleton]; omega
      · simp
      · intro i hi k hk
        rw [hfo, e6]
        exact app_ch l ⟨b.getD p 0, b.getD (p + 1) 0, (b.drop (p + 4)).take (n - 4)⟩ hi hk
  · have : b.drop p = [] := List.length_eq_zero_iff.1 (by omega)
    rw [this, hf, getG_nil]
    exact ⟨⟨rfl, fun _ _ _ _ => rfl⟩, rfl⟩
set_option maxRecDepth 100000 in
theorem ok22 : FnIs Tryd.prog 22 getsC := by
  refine fnIs (C := (ctrs c9)) (by kernel_rfl) c9_ok Tryd.func22 (code := code22) (by kernel_rfl) (by kernel_rfl) ?_
  rintro a ⟨b, rfl, h, hb⟩
  exact ⟨anns [(5, getAnn' b), (17, padAnn b)], kcast (vc22 b h hb) (by kernel_rfl)⟩

noncomputable def code25 : Code := match Tryd.f25.body with | some c => c | none => .skip
set_option maxHeartbeats 4000000 in
theorem vc25 : ∀ (l m : List ChR), okChs l → okChs m → ∃ (g0 : Nat), (g0 ≤ l.length ∧ g0 ≤ m.length ∧ ∀ (j : Nat), j < g0 → sameCh (l.getD j noCh) (m.getD j noCh) = true) ∧
  (0 : Int) = (↑g0 : Int) ∧ (true && true) = true ∧ ∀ (g : Nat), (g ≤ l.length ∧ g ≤ m.length ∧ ∀ (j : Nat), j < g → sameCh (l.getD j noCh) (m.getD j noCh) = true) →
  True ∧ sw (decide ((↑g : Int) < (↑l.length : Int))) (SV.c (Value.int IntKind.i64 (↑g : Int)) = SV.c (Value.int IntKind.i64 (↑g : Int))) True ∧ sw (decide ((↑g : Int) < (↑l.length : Int))) (SV.a (1 : Nat) = SV.a (1 : Nat)) True ∧
  sw (decide ((↑g : Int) < (↑l.length : Int))) ([decide ((↑g : Int) < (↑l.length : Int))] = [decide ((↑g : Int) < (↑l.length : Int))] ∧ SV.c (Value.int IntKind.i64 (↑m.length : Int)) = SV.c (Value.int IntKind.i64 (↑m.length : Int))) True ∧
  sw (decide ((↑g : Int) < (↑l.length : Int))) ([decide ((↑g : Int) < (↑l.length : Int))] = [decide ((↑g : Int) < (↑l.length : Int))] ∧ [decide ((↑g : Int) < (↑l.length : Int))] = [decide ((↑g : Int) < (↑l.length : Int))] ∧
  True ∧ SV.c (Value.bool (decide ((↑g : Int) < (↑m.length : Int)))) = SV.c (Value.bool (decide ((↑g : Int) < (↑m.length : Int))))) True ∧ [decide ((↑g : Int) < (↑l.length : Int))] = [decide ((↑g : Int) < (↑l.length : Int))] ∧
  sw (decide ((↑g : Int) < (↑l.length : Int)) && decide ((↑g : Int) < (↑m.length : Int))) (((0 : Int) ≤ (↑g : Int) ∧ (↑g : Int) < (↑l.length : Int)) ∧ ((0 : Int) ≤ (↑g : Int) ∧
  (↑g : Int) < (↑m.length : Int)) ∧ (∃ (c : ChR), ∃ (d : ChR), [O.agg [O.d (D.v (Value.int IntKind.u8 (l.getD (↑g : Int).toNat noCh).t)), O.d (D.v (Value.int IntKind.u8 (l.getD (↑g : Int).toNat noCh).f)), O.d (D.ints IntKind.u8 (l.getD (↑g : Int).toNat noCh).v)], O.agg [O.d (D.v (Value.int IntKind.u8 (m.getD (↑g : Int).toNat noCh).t)), O.d (D.v (Value.int IntKind.u8 (m.getD (↑g : Int).toNat noCh).f)), O.d (D.ints IntKind.u8 (m.getD (↑g : Int).toNat noCh).v)]] = [O.agg [O.d (D.v (Value.int IntKind.u8 c.t)), O.d (D.v (Value.int IntKind.u8 c.f)), O.d (D.ints IntKind.u8 c.v)], O.agg [O.d (D.v (Value.int IntKind.u8 d.t)), O.d (D.v (Value.int IntKind.u8 d.f)), O.d (D.ints IntKind.u8 d.v)]]) ∧
  sw (!sameCh (ChR.mk (l.getD (↑g : Int).toNat noCh).t (l.getD (↑g : Int).toNat noCh).f (l.getD (↑g : Int).toNat noCh).v) (ChR.mk (m.getD (↑g : Int).toNat noCh).t (m.getD (↑g : Int).toNat noCh).f (m.getD (↑g : Int).toNat noCh).v)) (false = sameChs (chsOf (D.recs (3 : Nat) l.length (chCell l))) (chsOf (D.recs (3 : Nat) m.length (chCell m))) ∧
  (true && true) = true) (True ∧ ∃ (g' : Nat), (g' ≤ l.length ∧ g' ≤ m.length ∧ ∀ (j : Nat), j < g' → sameCh (l.getD j noCh) (m.getD j noCh) = true) ∧ l.length - g' < l.length - g ∧
  (IntKind.i64.wrap ((↑g : Int) + (1 : Int)) = (↑g' : Int) ∧ (true && true && true) = true) ∧ (some (SV.a (0 : Nat)) = some (SV.a (0 : Nat)) ∧ some (SV.a (1 : Nat)) = some (SV.a (1 : Nat)) ∧
  True) ∧ some (R.ro (D.recs (3 : Nat) m.length (chCell m))) = some (R.ro (D.recs (3 : Nat) m.length (chCell m))) ∧ some (R.ro (D.recs (3 : Nat) l.length (chCell l))) = some (R.ro (D.recs (3 : Nat) l.length (chCell l))) ∧
  True)) (True ∧ decide ((↑l.length : Int) = (↑m.length : Int)) = sameChs (chsOf (D.recs (3 : Nat) l.length (chCell l))) (chsOf (D.recs (3 : Nat) m.length (chCell m))) ∧
  (true && true) = true) := by
  simp only [↓sw_iff, ↓Bool.and_eq_true, ↓Bool.and_eq_false_iff, ↓decide_eq_true_eq, ↓decide_eq_false_iff_not, ↓Bool.not_eq_true', ↓Bool.not_eq_false', true_and, and_true, implies_true, Int.toNat_natCast, chsOf_chs]
  intro l m hl hm
  obtain ⟨l1, l2⟩ := hl
  obtain ⟨m1, m2⟩ := hm
  refine ⟨0, ⟨Nat.zero_le _, Nat.zero_le _, fun j hj => absurd hj (Nat.not_lt_zero _)⟩, rfl, ?_⟩
  rintro g ⟨h1, h2, h3⟩
  refine ⟨fun hlt => ⟨⟨by omega, by omega⟩, ⟨by omega, by omega⟩, ⟨_, _, rfl⟩, fun he => (sames_false (by omega) (by omega) he).symm, fun he => ⟨g + 1, ⟨by omega, by omega, fun j hj => ?_⟩, by omega, by rw [wrap_i64_id (by omega) (by omega)]; rfl⟩⟩, fun hge => sames_end (by omega) h3⟩
  by_cases e : j = g
  · subst e; exact he
  · exact h3 j (by omega)
set_option maxRecDepth 100000 in
theorem ok25 : FnIs Tryd.prog 25 samesC := by
  refine fnIs (C := (ctrs c10)) (by kernel_rfl) c10_ok Tryd.func25 (code := code25) (by kernel_rfl) (by kernel_rfl) ?_
  rintro a ⟨l, m, rfl, hl, hm⟩
  exact ⟨anns [(2, samesAnn l m)], kcast (vc25 l m hl hm) (by kernel_rfl)⟩

end Go.ZR

/- Chunks: what is written is read; what is read, written again, is the same. Contracts of the statements. -/
namespace Go.ZM
open Go.Z Go.ZR
def okCB (l : List ChR) : Prop := ∀ c, c ∈ l → (0 ≤ c.t ∧ c.t ≤ 255) ∧ (0 ≤ c.f ∧ c.f ≤ 255) ∧ okB c.v
theorem chB_ok {c : ChR} (h1 : 0 ≤ c.t ∧ c.t ≤ 255) (h2 : 0 ≤ c.f ∧ c.f ≤ 255) (h3 : okB c.v) : okB (chB c) := by
  refine okB_append (fun x hx => ?_) (okB_append (be_ok _ _) (okB_padF h3))
  simp only [List.mem_cons, List.not_mem_nil, or_false] at hx
  rcases hx with rfl | rfl
  · exact h1
  · exact h2
theorem putB_ok {l : List ChR} (h : okCB l) : okB (putB l) := fun x hx => by
  obtain ⟨c, hc, hx⟩ := List.mem_flatMap.1 hx
  obtain ⟨h1, h2, h3⟩ := h c hc
  exact chB_ok h1 h2 h3 x hx
theorem putB_cons (c : ChR) (l : List ChR) : putB (c :: l) = chB c ++ putB l := by simp [putB]
theorem putB_append (l m : List ChR) : putB (l ++ m) = putB l ++ putB m := by simp [putB]
theorem numF_put (c : ChR) (r : List Int) (h : c.v.length ≤ 65531) : numF (chB c ++ r) = 4 + c.v.length := by
  have : ((chB c ++ r).drop 2).take 2 = be (4 + (c.v.length : Int)) 2 := by
    have e : chB c ++ r = [c.t, c.f] ++ (be (4 + (c.v.length : Int)) 2 ++ (padF c.v ++ r)) := by simp [chB]
    rw [e, List.drop_append_of_le_length (by simp), List.drop_of_length_le (by simp), List.nil_append, List.take_append_of_le_length (by simp [be_len]), List.take_of_length_le (by simp [be_len])]
  unfold numF
  rw [this, val_be]
  have : (256 : Int) ^ 2 = 65536 := rfl
  omega
theorem first_put (c : ChR) (r : List Int) (h : c.v.length ≤ 65531) : firstF (chB c ++ r) = (c, (chB c).length, 0) := by
  have hl := chB_len c
  have hn := numF_put c r h
  have hp : padN (4 + c.v.length) = padN c.v.length := by unfold padN; omega
  have e : chB c ++ r = [c.t, c.f] ++ (be (4 + (c.v.length : Int)) 2 ++ (c.v ++ (List.replicate (padN c.v.length) 0 ++ r))) := by simp [chB, padF]
  have hd : ∀ k, (chB c ++ r).drop (4 + k) = (c.v ++ (List.replicate (padN c.v.length) 0 ++ r)).drop k := fun k => by
    rw [← List.drop_drop]
    congr 1
    rw [e, ← List.append_assoc, List.drop_append_of_le_length (by simp [be_len]), List.drop_of_length_le (by simp [be_len]), List.nil_append]
  have hz : someNZ (((chB c ++ r).drop (numF (chB c ++ r))).take (padN (numF (chB c ++ r)))) = false := by
    rw [hn, hp, hd, List.drop_append_of_le_length (Nat.le_refl _), List.drop_of_length_le (Nat.le_refl _), List.nil_append, List.take_append_of_le_length (by simp), List.take_of_length_le (by simp), someNZ, List.any_eq_false]
    intro x hx
    have := List.eq_of_mem_replicate hx
    simp [this]
  rw [first_ok (by simp; omega) (by omega) (by rw [hn, hp]; simp; omega) hz, hn, hp]
  have h4 := hd 0
  rw [Nat.add_zero, List.drop_zero] at h4
  rw [h4, show 4 + c.v.length - 4 = c.v.length by omega, List.take_append_of_le_length (Nat.le_refl _), List.take_of_length_le (Nat.le_refl _)]
  refine Prod.ext ?_ (Prod.ext ?_ rfl)
  · have e0 : (chB c ++ r).getD 0 0 = c.t := by rw [e]; rfl
    have e1 : (chB c ++ r).getD 1 0 = c.f := by rw [e]; rfl
    simp only [e0, e1]
  · simp only; omega
theorem getG_put : ∀ (l : List ChR) (acc : List ChR) (f : Nat), acc.length + l.length ≤ 32 → f = 33 - acc.length → (∀ c, c ∈ l → c.v.length ≤ 65531) → getG f acc (putB l) = (acc ++ l, 0)
  | [], acc, f, h, hf, _ => by
    obtain ⟨k, rfl⟩ : ∃ k, f = k + 1 := ⟨f - 1, by simp at h; omega⟩
    show getG (k + 1) acc [] = _
    rw [getG_nil, List.append_nil]
  | c :: l, acc, f, h, hf, hv => by
    simp only [List.length_cons] at h
    obtain ⟨k, rfl⟩ : ∃ k, f = k + 1 := ⟨f - 1, by omega⟩
    have hfi := first_put c (putB l) (hv c (List.mem_cons_self ..))
    have hl := chB_len c
    rw [putB_cons, getG_step (by rw [List.length_append]; omega) (by omega) (by rw [hfi]), hfi]
    simp only
    rw [List.drop_append_of_le_length (Nat.le_refl _), List.drop_of_length_le (Nat.le_refl _), List.nil_append, getG_put l (acc ++ [c]) k (by simp; omega) (by simp; omega) (fun d hd => hv d (List.mem_cons_of_mem _ hd))]
    simp
theorem put_small {l : List ChR} (h : (putB l).length ≤ 4096) : ∀ c, c ∈ l → c.v.length ≤ 65531 := fun c hc => by
  have : (chB c).length ≤ (putB l).length := by
    obtain ⟨a, b, rfl⟩ := List.append_of_mem hc
    rw [putB_append, putB_cons]; simp; omega
  rw [chB_len] at this; omega
theorem get_put {l : List ChR} (h : l.length ≤ 32) (h' : (putB l).length ≤ 4096) : getR (putB l) = (l, 0) := by
  rw [getR_eq (by omega), getG_put l [] 33 (by simpa using h) rfl (put_small h')]; rfl
/-- What a first chunk is made of. -/
theorem first_bytes {b : List Int} (hb : okB b) (h : (firstF b).2.2 = 0) : b = chB (firstF b).1 ++ b.drop (firstF b).2.1 ∧ (firstF b).1.v.length ≤ 65531 := by
  by_cases h0 : b.length < 4
  · rw [first_short h0] at h; cases h
  by_cases h1 : numF b < 4
  · rw [first_form h0 h1] at h; cases h
  by_cases h2 : b.length < numF b + padN (numF b)
  · rw [first_short2 h0 h1 h2] at h; cases h
  cases h3 : someNZ ((b.drop (numF b)).take (padN (numF b))) with
  | true => rw [first_form2 h0 h1 h2 h3] at h; cases h
  | false =>
    rw [first_ok h0 h1 h2 h3]
    simp only
    obtain ⟨n0, n1⟩ := num_lt hb
    have hn : (numF b : Int) = valF ((b.drop 2).take 2) := by unfold numF; omega
    have hlv : ((b.drop 4).take (numF b - 4)).length = numF b - 4 := by rw [List.length_take, List.length_drop]; omega
    have hpp : padN (numF b - 4) = padN (numF b) := by unfold padN; omega
    refine ⟨?_, by rw [hlv]; omega⟩
    have s1 : b = b.take 2 ++ b.drop 2 := (List.take_append_drop 2 b).symm
    have s2 : b.drop 2 = (b.drop 2).take 2 ++ b.drop 4 := by
      have := (List.take_append_drop 2 (b.drop 2)).symm
      rw [List.drop_drop] at this; exact this
    have s3 : b.drop 4 = (b.drop 4).take (numF b - 4) ++ b.drop (numF b) := by
      have := (List.take_append_drop (numF b - 4) (b.drop 4)).symm
      rw [List.drop_drop, show 4 + (numF b - 4) = numF b by omega] at this; exact this
    have s4 : b.drop (numF b) = (b.drop (numF b)).take (padN (numF b)) ++ b.drop (numF b + padN (numF b)) := by
      have := (List.take_append_drop (padN (numF b)) (b.drop (numF b))).symm
      rw [List.drop_drop] at this; exact this
    have t1 : b.take 2 = [b.getD 0 0, b.getD 1 0] := by
      match b, h0 with
      | x :: y :: _, _ => rfl
      | [_], h0 => simp at h0
      | [], h0 => simp at h0
    have t2 : (b.drop 2).take 2 = be (4 + (((b.drop 4).take (numF b - 4)).length : Int)) 2 := by
      rw [hlv, show (4 : Int) + ((numF b - 4 : Nat) : Int) = (numF b : Int) by omega, hn]
      have := be_val (okB_take (okB_drop hb 2) 2)
      rw [show ((b.drop 2).take 2).length = 2 by rw [List.length_take, List.length_drop]; omega] at this
      exact this.symm
    have t3 : (b.drop (numF b)).take (padN (numF b)) = List.replicate (padN (numF b)) 0 := by
      rw [List.eq_replicate_iff]
      refine ⟨by rw [List.length_take, List.length_drop]; omega, fun x hx => ?_⟩
      rw [someNZ, List.any_eq_false] at h3
      have a1 := h3 x hx
      have a2 := okB_take (okB_drop hb (numF b)) _ x hx
      have a3 : ¬ 0 < x := by simpa using a1
      omega
    have hc : chB ⟨b.getD 0 0, b.getD 1 0, (b.drop 4).take (numF b - 4)⟩ = b.take 2 ++ ((b.drop 2).take 2 ++ ((b.drop 4).take (numF b - 4) ++ (b.drop (numF b)).take (padN (numF b)))) := by
      unfold chB padF
      simp only
      rw [t1, t2, t3, hlv, hpp]
    rw [hc]
    simp only [List.append_assoc]
    rw [← s4, ← s3, ← s2, ← s1]
theorem put_get : ∀ (f : Nat) (acc : List ChR) (b : List Int) (l : List ChR), okB b → acc.length ≤ 32 → getG f acc b = (l, 0) → ∃ m, l = acc ++ m ∧ putB m = b ∧ l.length ≤ 32
  | 0, acc, b, l, _, _, h => by rw [getG] at h; cases h
  | f + 1, acc, b, l, hb, ha, h => by
    by_cases h0 : b.length = 0
    · have : b = [] := List.length_eq_zero_iff.1 h0
      subst this
      rw [getG_nil] at h
      cases h
      exact ⟨[], by simp, rfl, ha⟩
    by_cases h1 : 32 ≤ acc.length
    · rw [getG_full h0 h1] at h; cases h
    by_cases h2 : (firstF b).2.2 = 0
    · rw [getG_step h0 h1 h2] at h
      obtain ⟨m, h3, h4, h5⟩ := put_get f _ _ l (okB_drop hb _) (by simp; omega) h
      refine ⟨(firstF b).1 :: m, by rw [h3]; simp, ?_, h5⟩
      rw [putB_cons, h4, ← (first_bytes hb h2).1]
    · rw [getG_err h0 h1 h2] at h
      exact absurd (congrArg Prod.snd h) h2
theorem getG_len : ∀ (f : Nat) (acc : List ChR) (b : List Int), okB b → acc.length ≤ 32 → (∀ c, c ∈ acc → c.v.length ≤ 65531) → (getG f acc b).1.length ≤ 32 ∧ ∀ c, c ∈ (getG f acc b).1 → c.v.length ≤ 65531
  | 0, acc, b, _, _, _ => by rw [getG]; exact ⟨Nat.zero_le _, fun c hc => by cases hc⟩
  | f + 1, acc, b, hb, ha, hv => by
    by_cases h0 : b.length = 0
    · have : b = [] := List.length_eq_zero_iff.1 h0
      subst this
      rw [getG_nil]; exact ⟨ha, hv⟩
    by_cases h1 : 32 ≤ acc.length
    · rw [getG_full h0 h1]; exact ⟨Nat.zero_le _, fun c hc => by cases hc⟩
    by_cases h2 : (firstF b).2.2 = 0
    · rw [getG_step h0 h1 h2]
      refine getG_len f _ _ (okB_drop hb _) (by simp; omega) fun c hc => ?_
      rcases List.mem_append.1 hc with hc | hc
      · exact hv c hc
      · rw [List.mem_singleton.1 hc]; exact (first_bytes hb h2).2
    · rw [getG_err h0 h1 h2]; exact ⟨Nat.zero_le _, fun c hc => by cases hc⟩
theorem getR_ok {b : List Int} (hb : okB b) : okChs (getR b).1 := by
  by_cases h : 4096 < b.length
  · rw [getR_big h]; exact ⟨Nat.zero_le _, fun c hc => by cases hc⟩
  · rw [getR_eq h]
    obtain ⟨h1, h2⟩ := getG_len 33 [] b hb (Nat.zero_le _) (fun c hc => by cases hc)
    exact ⟨by omega, fun c hc => by have := h2 c hc; unfold sm; omega⟩
theorem getG_err_nil : ∀ (f : Nat) (acc : List ChR) (b : List Int), (getG f acc b).2 ≠ 0 → (getG f acc b).1 = []
  | 0, acc, b, _ => by rw [getG]
  | f + 1, acc, b, h => by
    by_cases h0 : b.length = 0
    · have : b = [] := List.length_eq_zero_iff.1 h0
      subst this
      rw [getG_nil] at h; exact absurd rfl h
    by_cases h1 : 32 ≤ acc.length
    · rw [getG_full h0 h1]
    by_cases h2 : (firstF b).2.2 = 0
    · rw [getG_step h0 h1 h2] at h ⊢
      exact getG_err_nil f _ _ h
    · rw [getG_err h0 h1 h2]
theorem getR_err {b : List Int} (h : (getR b).2 ≠ 0) : (getR b).1 = [] := by
  by_cases hb : 4096 < b.length
  · rw [getR_big hb]
  · rw [getR_eq hb] at h ⊢; exact getG_err_nil _ _ _ h
theorem getR_put {b : List Int} (hb : okB b) (h : (getR b).2 = 0) : putR (getR b).1 = (b, 0) := by
  by_cases h1 : 4096 < b.length
  · rw [getR_big h1] at h; cases h
  · rw [getR_eq h1] at h ⊢
    obtain ⟨m, e1, e2, e3⟩ := put_get 33 [] b (getG 33 [] b).1 hb (Nat.zero_le _) (Prod.ext rfl h)
    rw [List.nil_append] at e1
    rw [e1, put_ok (by rw [← e1]; exact e3) (by rw [e2]; omega), e2]
theorem sameCh_refl (c : ChR) : sameCh c c = true := by simp [sameCh]
theorem sames_refl (l : List ChR) : sameChs l l = true := by
  have : ((List.range (min l.length l.length)).all fun i => sameCh (l.getD i noCh) (l.getD i noCh)) = true := by
    rw [List.all_eq_true]; intro x _; exact sameCh_refl _
  unfold sameChs; rw [this]; simp
theorem putR_zero {l : List ChR} (h : (putR l).2 = 0) : l.length ≤ 32 ∧ (putB l).length ≤ 4096 ∧ (putR l).1 = putB l := by
  unfold putR at h ⊢
  split at h
  · cases h
  · rename_i hc
    rw [if_neg hc]; exact ⟨by omega, by omega, rfl⟩
theorem putR_len (l : List ChR) : (putR l).1.length ≤ 4096 := by
  unfold putR
  split
  · exact Nat.zero_le _
  · simp only; omega
theorem putR_ok {l : List ChR} (h : okCB l) : okB (putR l).1 := by
  unfold putR
  split
  · exact fun x hx => by cases hx
  · exact putB_ok h
/-- A list of chunks, however it was laid. -/
def asCh (A : D) (l : List ChR) : Prop := chsOf A = l ∧ readsTo A (.recs 3 l.length (chCell l))
end Go.ZM
namespace Go.ZR
open Go.Z Go.ZM Go.Proofs
def trueC (n : Nat) (pre : List O → Prop) : Ctr := nC n false pre fun _ => [bO true]
theorem asCh_self (l : List ChR) : asCh (.recs 3 l.length (chCell l)) l := ⟨chsOf_chs l, readsTo_refl _⟩
def samesWC : Ctr := nC 2 true (fun a => ∃ l m A B, a = [.d A, .d B] ∧ okChs l ∧ okChs m ∧ asCh A l ∧ asCh B m) fun a => [bO (sameChs (chsOf (dO (at_ a 0))) (chsOf (dO (at_ a 1))))]
theorem ok25w : FnIs Tryd.prog 25 samesWC := by
  refine ok25.weak fun a hp => ?_
  obtain ⟨l, m, A, B, rfl, h1, h2, ⟨r1, r2⟩, ⟨s1, s2⟩⟩ := hp
  refine ⟨[.d (chsD l), .d (chsD m)], ⟨l, m, rfl, h1, h2⟩, ?_, ?_, rfl⟩
  · exact toL_cons (toO_d r2) (toL_cons (toO_d s2) (toL_refl _))
  · show [bO (sameChs (chsOf (chsD l)) (chsOf (chsD m)))] = [bO (sameChs (chsOf A) (chsOf B))]
    rw [r1, s1, chsD, chsD, chsOf_chs, chsOf_chs]
theorem asCh_app (l m : List ChR) : asCh (.recs 3 (l.length + m.length) (fun i j => bif i.blt l.length then chCell l i j else chCell m (i - l.length) j)) (l ++ m) := by
  have hr : readsTo (.recs 3 (l.length + m.length) (fun i j => bif i.blt l.length then chCell l i j else chCell m (i - l.length) j)) (chsD (l ++ m)) := by
    unfold chsD
    rw [List.length_append]
    refine reads_recs fun i hi j hj => ?_
    by_cases h : i < l.length
    · have e : (l ++ m).getD i noCh = l.getD i noCh := by simp [List.getD, List.getElem?_append_left h]
      rw [blt_t h, _root_.cond_true]; unfold chCell; rw [e]
    · have e : (l ++ m).getD i noCh = m.getD (i - l.length) noCh := by simp [List.getD, List.getElem?_append_right (by omega : l.length ≤ i)]
      rw [blt_f h, _root_.cond_false]; unfold chCell; rw [e]
  refine ⟨?_, hr⟩
  have e : (List.range (l.length + m.length)).map (fun i => chAt fun j => bif i.blt l.length then chCell l i j else chCell m (i - l.length) j) = (List.range (l ++ m).length).map (fun i => (l ++ m).getD i noCh) := by
    rw [List.length_append]
    apply List.map_congr_left
    intro i hi
    have hi := List.mem_range.1 hi
    by_cases h : i < l.length
    · have e : (l ++ m).getD i noCh = l.getD i noCh := by simp [List.getD, List.getElem?_append_left h]
      rw [e, blt_t h]; rfl
    · have e : (l ++ m).getD i noCh = m.getD (i - l.length) noCh := by simp [List.getD, List.getElem?_append_right (by omega : l.length ≤ i)]
      rw [e, blt_f h]; rfl
  exact e.trans (range_getD (l ++ m) noCh)
def putLawC : Ctr := trueC 1 fun a => ∃ l, a = [.d (chsD l)] ∧ okChs l
def getLawC : Ctr := trueC 1 fun a => ∃ b, a = [bsO b] ∧ sm b.length ∧ okB b
def backLawC : Ctr := trueC 3 fun a => ∃ l m b, a = [.d (chsD l), .d (chsD m), bsO b] ∧ okChs l ∧ okChs m ∧ okCB l ∧ okCB m ∧ sm b.length ∧ okB b
end Go.ZR

/- Packets: plain functions, contracts. -/
set_option maxRecDepth 100000
namespace Go.ZM
open Go.Z Go.ZR

structure PacR where
  a : Int
  b : Int
  tag : Int
  l : List ChR
def noPac : PacR := ⟨0, 0, 0, []⟩
def rg16 (n : Int) : Prop := 0 ≤ n ∧ n ≤ 65535
def okPac (p : PacR) : Prop := rg16 p.a ∧ rg16 p.b ∧ rg p.tag ∧ okChs p.l ∧ okCB p.l
def aloneF (k : Int) : Bool := decide (k = 1) || decide (k = 2) || decide (k = 14)
def anyAl (l : List ChR) : Bool := l.any fun c => aloneF c.t
def soundP (p : PacR) : Bool :=
  if p.a = 0 ∨ p.b = 0 ∨ p.l.length = 0 then false else (!anyAl p.l || decide (p.l.length = 1)) && (decide ((p.l.getD 0 noCh).t = 1) == decide (p.tag = 0))
def pkH (p : PacR) : List Int := be p.a 2 ++ be p.b 2 ++ be p.tag 4
def pkBody (p : PacR) : List Int := pkH p ++ [0, 0, 0, 0] ++ putB p.l
def pkBytes (p : PacR) : List Int := pkH p ++ (pkB (pkBody p) ++ putB p.l)
def putP (p : PacR) : List Int × Int :=
  if soundP p = false then ([], 2) else if (putR p.l).2 ≠ 0 then ([], (putR p.l).2) else if 4096 < 12 + (putB p.l).length then ([], 4) else (pkBytes p, 0)
def nAt (v : List Int) (i : Int) (k : Nat) : Int := (getF v i k).1
def pacOf (b : List Int) : PacR := ⟨nAt b 0 2, nAt b 2 2, nAt b 4 4, (getR (b.drop 12)).1⟩
def getP (b : List Int) : PacR × Int :=
  if 4096 < b.length then (noPac, 4) else if b.length < 12 then (noPac, 3) else if pkB b ≠ (b.drop 8).take 4 then (noPac, 5) else
  if (getR (b.drop 12)).2 ≠ 0 then (noPac, (getR (b.drop 12)).2) else if soundP (pacOf b) = false then (noPac, 2) else (pacOf b, 0)
def sameP (p q : PacR) : Bool := decide (p.a = q.a) && decide (p.b = q.b) && decide (p.tag = q.tag) && sameChs p.l q.l
end Go.ZM
namespace Go.ZR
open Go.Z Go.ZM Go.Proofs
def pacO (p : PacR) : O := .agg [iO .u16 p.a, iO .u16 p.b, iO .u32 p.tag, .d (chsD p.l)]
def pacN (p : PacR) : O := .agg [iO .u16 p.a, iO .u16 p.b, iO .u32 p.tag, .own 28 (chsD p.l)]
def oD : O → D
  | .d x => x
  | .own _ x => x
  | _ => .v (.bool false)
def pacOfO : O → PacR
  | .agg [a, b, c, d] => ⟨vi (dO a), vi (dO b), vi (dO c), chsOf (oD d)⟩
  | _ => noPac
def alD : D := fnD 27 0 []
def aloneC : Ctr := nC 1 true (fun a => ∃ n, a = [iO .u8 n]) fun a => [bO (aloneF (vi (dO (at_ a 0))))]
def anyC : Ctr := nC 2 true (fun a => ∃ l, a = [.d (chsD l), .d alD] ∧ okChs l) fun a => [bO (anyAl (chsOf (dO (at_ a 0))))]
def soundPC : Ctr := nC 1 true (fun a => ∃ p, a = [pacO p] ∧ okChs p.l) fun a => [bO (soundP (pacOfO (at_ a 0)))]
def putPC : Ctr := gC 1 false (fun a => ∃ p, a = [pacO p] ∧ okPac p) fun a => [bsN (putP (pacOfO (at_ a 0))).1, iO .i64 (putP (pacOfO (at_ a 0))).2]
def eqC : Ctr := nC 2 true (fun a => ∃ l m, a = [bsO l, bsO m] ∧ sm l.length) fun a => [bO (decide (vl (dO (at_ a 0)) = vl (dO (at_ a 1))))]
def eqAnn (l m : List Int) : LoopAnn where
  γ := Nat
  pre := fun i => i ≤ l.length ∧ ∀ j, j < i → l.getD j 0 = m.getD j 0
  μ := fun i => l.length - i
  items := fun i => [(13, .c (iO .i64 (i : Int)))]
/-- As gC; results may share what is read. -/
def rgC (n : Nat) (pre : List O → Prop) (res : List O → List O) : Ctr where
  own := []
  pre := pre
  res := res
  upd := fun _ => List.replicate n .any
  ro := true
  quiet := false
  gl := deG
def getPC : Ctr := rgC 1 (fun a => ∃ b, a = [bsO b] ∧ sm b.length ∧ okB b) fun a => [pacN (getP (vl (dO (at_ a 0)))).1, iO .i64 (getP (vl (dO (at_ a 0)))).2]
def getPRC : Ctr := rC 1 (fun a => ∃ b, a = [bsO b] ∧ sm b.length ∧ okB b) fun a => [pacN (getP (vl (dO (at_ a 0)))).1, iO .i64 (getP (vl (dO (at_ a 0)))).2]
def samePC : Ctr := nC 2 true (fun a => ∃ (p q : PacR) (A B : D), a = [.agg [iO .u16 p.a, iO .u16 p.b, iO .u32 p.tag, .d A], .agg [iO .u16 q.a, iO .u16 q.b, iO .u32 q.tag, .d B]] ∧ okChs p.l ∧ okChs q.l ∧ asCh A p.l ∧ asCh B q.l) fun a => [bO (sameP (pacOfO (at_ a 0)) (pacOfO (at_ a 1)))]
def samePC0 : Ctr := nC 2 true (fun a => ∃ (p q : PacR), a = [pacO p, pacO q] ∧ okChs p.l ∧ okChs q.l) fun a => [bO (sameP (pacOfO (at_ a 0)) (pacOfO (at_ a 1)))]
def alAnn : LoopF := .fam (List ChR) fun l =>
  { γ := Nat, pre := fun i => i ≤ l.length ∧ ∀ j, j < i → aloneF (l.getD j noCh).t = false, μ := fun i => l.length - i, items := fun i => [(8, .c (iO .i64 (i : Int)))] }
def p5 : List (Nat × Ctr) := [(8, aloneC)]
def p6 : List (Nat × Ctr) := [(26, anyC)]
def p7 : List (Nat × Ctr) := [(14, soundPC), (15, putsC), (16, putC), (17, pksC)]
def p8 : List (Nat × Ctr) := [(17, pksC), (18, eqC), (19, getsC), (20, getC 8), (14, soundPC)]
/-- Chunks all of one kind of test. -/
def sndAnn (p : PacR) : LoopAnn where
  γ := Nat
  pre := fun i => i ≤ p.l.length ∧ ∀ j, j < i → (aloneF (p.l.getD j noCh).t = true → ¬ 1 < p.l.length) ∧ ((p.l.getD j noCh).t = 1 ↔ p.tag = 0)
  μ := fun i => p.l.length - i
  items := fun i => [(3, .c (iO .i64 (i : Int)))]
def zeroA (b : List Int) : LoopAnn where
  γ := Nat
  pre := fun i => i ≤ 4
  μ := fun i => 4 - i
  items := fun i => [(5, .c (iO .i64 ((8 + i : Nat) : Int))), (4, .c (bsN (b.take 8 ++ List.replicate i 0 ++ b.drop (8 + i))))]
def cmpA (b : List Int) (s : Int) : LoopAnn where
  γ := Nat
  pre := fun i => i ≤ 4 ∧ ∀ j, j < i → b.getD (8 + j) 0 = (s / 256 ^ j) % 256
  μ := fun i => 4 - i
  items := fun i => [(7, .c (iO .i64 (i : Int)))]
def p9 : List (Nat × Ctr) := [(40, aloneC)]
def p10 : List (Nat × Ctr) := [(21, csumC), (22, getsC), (23, numC), (24, soundPC)]
def p11 : List (Nat × Ctr) := [(25, samesWC)]
end Go.ZR
