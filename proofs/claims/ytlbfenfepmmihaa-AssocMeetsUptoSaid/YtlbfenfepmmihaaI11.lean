/- Part 11 of what the closing text rests on. -/
import Derived.Test.YtlbfenfepmmihaaI10
import Derived.Test.YtlbfenfepmmihaaRows
namespace Go.ZR
open Go.Z
def vi : D → Int
  | .v (.int _ n) => n
  | _ => 0
def vb : D → Bool
  | .v (.bool b) => b
  | _ => false
def vl : D → List Int
  | .ints _ l => l
  | _ => []
end Go.ZR
namespace Go.ZM
open Go.Z Go.ZR
def sm (n : Nat) : Prop := n ≤ 1099511627776
def okI (n : Int) : Prop := -2199023255552 ≤ n ∧ n ≤ 2199023255552
def partF (b : List Int) (i n : Int) : List Int × Int :=
  if i < 0 ∨ n < 0 then ([], 1) else if (b.length : Int) < i ∨ (b.length : Int) - i < n then ([], 3) else ((b.drop i.toNat).take n.toNat, 0)
def getF (b : List Int) (i : Int) (k : Nat) : Int × Int := (valF (partF b i k).1, (partF b i k).2)
theorem part_ok {b : List Int} (h : okB b) (i n : Int) : okB (partF b i n).1 := by
  unfold partF
  split
  · exact fun x hx => by cases hx
  split
  · exact fun x hx => by cases hx
  · exact okB_take (okB_drop h _) _
theorem part_len {b : List Int} {i : Int} {k : Nat} : (partF b i k).1.length ≤ k := by
  unfold partF
  split
  · exact Nat.zero_le _
  split
  · exact Nat.zero_le _
  · rw [Int.toNat_natCast]; exact List.length_take_le _ _
end Go.ZM
namespace Go.ZR
open Go.Z Go.ZM
def iO (k : IntKind) (n : Int) : O := .d (.v (.int k n))
def bO (b : Bool) : O := .d (.v (.bool b))
def bsO (l : List Int) : O := .d (.ints .u8 l)
def bsN (l : List Int) : O := .own 5 (.ints .u8 l)
def dO : O → D
  | .d x => x
  | _ => .v (.bool false)
def at_ (a : List O) (i : Nat) : O := a.getD i .any
def nC (n : Nat) (quiet : Bool) (pre : List O → Prop) (res : List O → List O) : Ctr where
  own := []
  pre := pre
  res := res
  upd := fun _ => List.replicate n .any
  ro := false
  quiet := quiet
def cloneC : Ctr := nC 1 false (fun a => ∃ l, a = [bsO l] ∧ sm l.length) fun a => [bsN (vl (dO (at_ a 0)))]
def padC : Ctr := nC 1 true (fun a => ∃ n : Nat, a = [iO .i64 n] ∧ n ≤ 2199023255552) fun a => [iO .i64 (padN (vi (dO (at_ a 0))).toNat : Nat)]
def paddedC : Ctr := nC 1 false (fun a => ∃ l, a = [bsO l] ∧ sm l.length) fun a => [bsN (padF (vl (dO (at_ a 0))))]
def putC : Ctr := nC 3 false (fun a => ∃ (b : List Int) (n : Int) (k : Nat), a = [bsO b, iO .u64 n, iO .i64 k] ∧ sm b.length ∧ 1 ≤ k ∧ k ≤ 8) fun a =>
  [bsN (vl (dO (at_ a 0)) ++ be (vi (dO (at_ a 1))) (vi (dO (at_ a 2))).toNat)]
def partA (a : List O) : List Int × Int := partF (vl (dO (at_ a 0))) (vi (dO (at_ a 1))) (vi (dO (at_ a 2)))
def partC : Ctr := nC 3 false (fun a => ∃ (b : List Int) (i n : Int), a = [bsO b, iO .i64 i, iO .i64 n] ∧ sm b.length ∧ okI i ∧ okI n) fun a => [bsN (partA a).1, iO .i64 (partA a).2]
def getA (a : List O) : Int × Int := getF (vl (dO (at_ a 0))) (vi (dO (at_ a 1))) (vi (dO (at_ a 2))).toNat
def getC (m : Nat) : Ctr := nC 3 false (fun a => ∃ (b : List Int) (i : Int) (k : Nat), a = [bsO b, iO .i64 i, iO .i64 k] ∧ sm b.length ∧ okB b ∧ okI i ∧ 1 ≤ k ∧ k ≤ m) fun a => [iO .u64 (getA a).1, iO .i64 (getA a).2]
def numC : Ctr := nC 3 false (fun a => ∃ (b : List Int) (i : Int) (k : Nat), a = [bsO b, iO .i64 i, iO .i64 k] ∧ sm b.length ∧ okB b ∧ okI i ∧ 1 ≤ k ∧ k ≤ 7) fun a => [iO .i64 (getA a).1]

def putAnn (b : List Int) (n : Int) (k : Nat) : LoopAnn where
  γ := Nat
  pre := fun j => j ≤ k
  μ := fun j => k - j
  items := fun j => [(19, .c (iO .i64 (j : Int))), (7, .c (bsN (b ++ (be n k).take j)))]
def putAnn' (b : List Int) (n : Int) (k : Nat) : LoopAnn where
  γ := Nat
  pre := fun j => j ≤ k
  μ := fun j => k - j
  items := fun j => [(8, .c (iO .i64 ((k : Int) - 1 - (j : Int)))), (7, .c (bsN (b ++ (be n k).take j)))]
def zAnn (b : List Int) : LoopAnn where
  γ := Nat
  pre := fun j => j ≤ padN b.length
  μ := fun j => padN b.length - j
  items := fun j => [(3, .c (bsN (b ++ List.replicate j 0)))]
def valAnn (s t : Nat) (p : List Int) : LoopAnn where
  γ := Nat
  pre := fun j => j ≤ p.length
  μ := fun j => p.length - j
  items := fun j => [(s, .c (iO .i64 (j : Int))), (t, .c (iO .u64 (valF (p.take j))))]
def c0 : List (Nat × Ctr) := []
def c1 : List (Nat × Ctr) := [(82, cloneC), (241, padC)]
def c2 : List (Nat × Ctr) := [(201, partC), (266, partC)]
def c3 : List (Nat × Ctr) := [(245, getC 8)]
theorem c0_ok {P : Program} : COk P (ctrs c0) := cok_nil
end Go.ZR

namespace Go.ZR
open Go.Proofs
open Go.Z Go.ZM Go.RowKit
set_option maxRecDepth 100000
theorem bytes5 : Try.prog.types[(5 : Nat)].bytes = 1 := by kernel_rfl
theorem part_get {b : List Int} {i n : Int} (h0 : 0 ≤ i) (h1 : 0 ≤ n) (h2 : i ≤ b.length) (h3 : n ≤ b.length - i) : partF b i n = ((b.drop i.toNat).take n.toNat, 0) := by
  unfold partF; rw [if_neg (by omega), if_neg (by omega)]
theorem part_err (b : List Int) (i n : Int) : (partF b i n).2 ≠ 0 → (partF b i n).1 = [] := by
  unfold partF
  split
  · intro _; rfl
  split
  · intro _; rfl
  · intro h; exact absurd rfl h
theorem be_step {b : List Int} {n : Int} {g k : Nat} (hg : g < k) : b ++ (be n k).take g ++ [(n / 256 ^ (k - 1 - g)) % 256] = b ++ (be n k).take (g + 1) := by
  rw [take_succ_getD (by rw [be_len]; exact hg), be_get n hg, List.append_assoc]
theorem val_small {l : List Int} (h : okB l) (hl : l.length ≤ 7) : 0 ≤ valF l ∧ valF l < 256 ^ 7 := by
  have h1 := val_lt h
  have h2 : (256 : Int) ^ l.length ≤ 256 ^ 7 := by
    have : ∀ k : Nat, k ≤ 7 → (256 : Int) ^ k ≤ 256 ^ 7 := by decide
    exact this _ hl
  exact ⟨val_nonneg h, by omega⟩
noncomputable def code82 : Code := match Try.f82.body with | some c => c | none => .skip
set_option maxHeartbeats 4000000 in
theorem vc82 : ∀ (l : List Int), sm l.length → ∀ (t : Bool), (t = true → l.length = (0 : Nat)) → sw t (l = [] ∧ true = true) (True ∧ ((0 : Nat) + l.length) * Try.prog.types[5].bytes ≤ (140737488355328 : Nat) ∧
  [] ++ l = l ∧ (true && true && true) = true) := by
  simp only [↓sw_iff, ↓Bool.and_eq_true, true_and, and_true, Nat.zero_add, List.nil_append, Nat.mul_one, bytes5]
  intro l h t ht
  unfold sm at h
  exact ⟨fun e => by have := ht e; exact List.length_eq_zero_iff.1 this, fun _ => by omega⟩
set_option maxRecDepth 100000 in
theorem ok82 : FnIs Try.prog 82 cloneC := by
  refine fnIs (C := (ctrs c0)) (by kernel_rfl) c0_ok Try.func82 (code := code82) (by kernel_rfl) (by kernel_rfl) ?_
  rintro a ⟨l, rfl, h⟩
  exact ⟨anns [], kcast (vc82 l h) (by kernel_rfl)⟩

noncomputable def code241 : Code := match Try.f241.body with | some c => c | none => .skip
set_option maxHeartbeats 4000000 in
theorem vc241 : ∀ (n : Nat), n ≤ (2199023255552 : Nat) → True ∧ True ∧ bits BinOp.and IntKind.i64 (IntKind.i64.wrap ((0 : Int) - (↑n : Int))) (3 : Int) = (↑(padN (↑n : Int).toNat) : Int) ∧
  true = true := by
  simp only [true_and, and_true, Int.toNat_natCast]
  intro n h
  exact and_three
set_option maxRecDepth 100000 in
theorem ok241 : FnIs Try.prog 241 padC := by
  refine fnIs (C := (ctrs c0)) (by kernel_rfl) c0_ok Try.func241 (code := code241) (by kernel_rfl) (by kernel_rfl) ?_
  rintro a ⟨n, rfl, h⟩
  exact ⟨anns [], kcast (vc241 n h) (by kernel_rfl)⟩

theorem c1_ok : COk Try.prog (ctrs c1) := cok_cons ok82 (cok_cons ok241 cok_nil)

noncomputable def code199 : Code := match Try.f199.body with | some c => c | none => .skip
set_option maxHeartbeats 4000000 in
theorem vc199 : ∀ (l : List Int), sm l.length → (∃ (l_1 : List Int), [O.d (D.ints IntKind.u8 l)] = [O.d (D.ints IntKind.u8 l_1)] ∧ sm l_1.length) ∧ (∃ (n : Nat), [iO .i64 (↑l.length : Int)] = [iO .i64 (↑n : Int)] ∧
  n ≤ (2199023255552 : Nat)) ∧ ((0 : Int) ≤ (↑(padN (↑l.length : Int).toNat) : Int) ∧ (↑(padN (↑l.length : Int).toNat) : Int) ≤ (9223372036854775807 : Int) ∧
  (↑(padN (↑l.length : Int).toNat) : Int).toNat * Try.prog.types[5].bytes ≤ (281474976710656 : Nat) ∧ IntKind.u8 = IntKind.u8) ∧ (l.length + (List.replicate (↑(padN (↑l.length : Int).toNat) : Int).toNat (0 : Int)).length) * Try.prog.types[5].bytes ≤ (140737488355328 : Nat) ∧
  l ++ List.replicate (↑(padN (↑l.length : Int).toNat) : Int).toNat (0 : Int) = padF l ∧ (true && true && true) = true := by
  delta iO
  simp only [↓Bool.and_eq_true, and_true, Int.toNat_natCast, Nat.mul_one, bytes5, List.length_replicate]
  intro l h
  have hp := padN_le l.length
  refine ⟨⟨l, rfl, h⟩, ⟨l.length, rfl, ?_⟩, ⟨by omega, by omega, by omega⟩, ?_, rfl⟩ <;> unfold sm at h <;> omega
set_option maxRecDepth 100000 in
theorem ok199 : FnIs Try.prog 199 paddedC := by
  refine fnIs (C := (ctrs c1)) (by kernel_rfl) c1_ok Try.func199 (code := code199) (by kernel_rfl) (by kernel_rfl) ?_
  rintro a ⟨l, rfl, h⟩
  exact ⟨anns [], kcast (vc199 l h) (by kernel_rfl)⟩

noncomputable def code156 : Code := match Try.f156.body with | some c => c | none => .skip
set_option maxHeartbeats 4000000 in
theorem vc156 : ∀ (l : List Int), sm l.length → True ∧ ((0 : Nat) + l.length) * Try.prog.types[5].bytes ≤ (140737488355328 : Nat) ∧ ∃ (g0 : Nat), g0 ≤ padN l.length ∧
  [] ++ l = l ++ List.replicate g0 (0 : Int) ∧ (true && true && true) = true ∧ ∀ (g : Nat), g ≤ padN l.length → (4 : Int) ≠ (0 : Int) ∧ True ∧ sw (!decide ((↑(l ++ List.replicate g (0 : Int)).length : Int).tmod (4 : Int) = (0 : Int))) (True ∧
  ((l ++ List.replicate g (0 : Int)).length + (1 : Nat)) * Try.prog.types[5].bytes ≤ (140737488355328 : Nat) ∧ ∃ (g' : Nat), g' ≤ padN l.length ∧
  padN l.length - g' < padN l.length - g ∧ (l ++ List.replicate g (0 : Int) ++ [(0 : Int)] = l ++ List.replicate g' (0 : Int) ∧ (true && true && true && true) = true) ∧
  (some (SV.a (2 : Nat)) = some (SV.a (2 : Nat)) ∧ some (SV.a (0 : Nat)) = some (SV.a (0 : Nat)) ∧ some (SV.a (1 : Nat)) = some (SV.a (1 : Nat)) ∧ some SV.nil = some SV.nil ∧
  some (SV.a (0 : Nat)) = some (SV.a (0 : Nat)) ∧ True) ∧ some R.dead = some R.dead ∧ some (R.ro (D.ints IntKind.u8 l)) = some (R.ro (D.ints IntKind.u8 l)) ∧
  True) (l ++ List.replicate g (0 : Int) = padF l ∧ (true && true && true) = true) := by
  simp only [↓sw_iff, ↓Bool.and_eq_true, ↓decide_eq_true_eq, ↓decide_eq_false_iff_not, ↓Bool.not_eq_true', ↓Bool.not_eq_false', true_and, and_true, Nat.zero_add, List.nil_append, List.length_append, Nat.mul_one, bytes5, List.length_replicate]
  intro l h
  unfold sm at h
  refine ⟨by omega, 0, Nat.zero_le _, by simp, ?_⟩
  intro g hg
  have e : ((l.length + g : Nat) : Int).tmod 4 = (((l.length + g) % 4 : Nat) : Int) := rfl
  rw [e]
  have hp := padN_le l.length
  refine ⟨by decide, fun ht => ⟨by omega, g + 1, ?_, ?_, ?_⟩, fun ht => ?_⟩
  · have : ¬ (((l.length + g) % 4 : Nat) : Int) = 0 := ht
    unfold padN at hg ⊢; omega
  · have : ¬ (((l.length + g) % 4 : Nat) : Int) = 0 := ht
    unfold padN at hg ⊢; omega
  · rw [List.replicate_succ', List.append_assoc]
  · have : (((l.length + g) % 4 : Nat) : Int) = 0 := ht
    have : g = padN l.length := by unfold padN at hg ⊢; omega
    rw [this]; rfl
set_option maxRecDepth 100000 in
theorem ok156 : FnIs Try.prog 156 paddedC := by
  refine fnIs (C := (ctrs c0)) (by kernel_rfl) c0_ok Try.func156 (code := code156) (by kernel_rfl) (by kernel_rfl) ?_
  rintro a ⟨l, rfl, h⟩
  exact ⟨anns [(2, zAnn l)], kcast (vc156 l h) (by kernel_rfl)⟩

noncomputable def code198 : Code := match Try.f198.body with | some c => c | none => .skip
@[reducible] noncomputable def q198_0 (x0 : Nat) : Int := (↑x0 : Int)
@[reducible] def q198_1 : Prop := (true && true && true) = true
@[reducible] def q198_3 (x0 : Nat) : Prop := some (SV.c (Value.int IntKind.i64 (q198_0 x0))) = some (SV.c (Value.int IntKind.i64 (q198_0 x0)))
@[reducible] noncomputable def q198_4 (x0 : Nat) : Option SV := some (SV.c (Value.bool (decide ((8 : Int) < q198_0 x0))))
@[reducible] noncomputable def q198_5 (x0 : Nat) : Option SV := some (SV.c (Value.bool (decide (q198_0 x0 < (1 : Int)))))
@[reducible] def q198_6 : Prop := some (SV.a (0 : Nat)) = some (SV.a (0 : Nat))
set_option maxHeartbeats 4000000 in
theorem vc198 : ∀ (b : List Int) (n : Int) (k : Nat), sm b.length → (1 : Nat) ≤ k → k ≤ (8 : Nat) → (∃ (l : List Int), [O.d (D.ints IntKind.u8 b)] = [O.d (D.ints IntKind.u8 l)] ∧
  sm l.length) ∧ True ∧ sw (decide (q198_0 k < (1 : Int))) (b = b ++ be n (q198_0 k).toNat ∧ q198_1) (True ∧ sw (decide ((8 : Int) < q198_0 k)) (b = b ++ be n (q198_0 k).toNat ∧
  q198_1) (∃ (g0 : Nat), g0 ≤ k ∧ (0 : Int) = q198_0 g0 ∧ b = b ++ List.take g0 (be n k) ∧ q198_1 ∧ ∀ (g : Nat), g ≤ k → True ∧ sw (decide (q198_0 g < q198_0 k)) (True ∧
  True ∧ True ∧ (0 : Int) ≤ IntKind.i64.wrap ((8 : Int) * IntKind.i64.wrap (IntKind.i64.wrap (q198_0 k - (1 : Int)) - q198_0 g)) ∧ True ∧ ((b ++ List.take g (be n k)).length + (1 : Nat)) * Try.prog.types[5].bytes ≤ (140737488355328 : Nat) ∧
  True ∧ ∃ (g' : Nat), g' ≤ k ∧ k - g' < k - g ∧ (IntKind.i64.wrap (q198_0 g + (1 : Int)) = q198_0 g' ∧ b ++ List.take g (be n k) ++ [IntKind.u8.wrap (n.fdiv ((2 : Int) ^ min (IntKind.i64.wrap ((8 : Int) * IntKind.i64.wrap (IntKind.i64.wrap (q198_0 k - (1 : Int)) - q198_0 g))).toNat IntKind.u64.bits))] = b ++ List.take g' (be n k) ∧
  (true && true && true && true) = true) ∧ (q198_3 k ∧ q198_4 k = q198_4 k ∧
  q198_4 k = q198_4 k ∧ q198_3 k ∧ some (SV.b false) = some (SV.b false) ∧ q198_5 k = q198_5 k ∧ q198_3 k ∧ some (SV.a (1 : Nat)) = some (SV.a (1 : Nat)) ∧
  q198_6 ∧ some SV.nil = some SV.nil ∧ q198_6 ∧ some (SV.c (Value.int IntKind.u64 n)) = some (SV.c (Value.int IntKind.u64 n)) ∧ q198_3 k ∧ True) ∧ some (R.ro (D.ints IntKind.u8 b)) = some (R.ro (D.ints IntKind.u8 b)) ∧
  True) (b ++ List.take g (be n k) = b ++ be n (q198_0 k).toNat ∧ q198_1))) := by
  delta q198_0 q198_1 q198_3 q198_4 q198_5 q198_6
  simp only [↓sw_iff, ↓Bool.and_eq_true, ↓decide_eq_true_eq, ↓decide_eq_false_iff_not, true_and, and_true, Int.toNat_natCast, List.length_append, Nat.mul_one, bytes5]
  intro b n k h h1 h2
  refine ⟨⟨b, rfl, h⟩, fun e => absurd e (by omega), fun _ => ⟨fun e => absurd e (by omega), fun _ => ⟨0, Nat.zero_le _, rfl, by simp, ?_⟩⟩⟩
  unfold sm at h
  intro g hg
  refine ⟨fun ht => ?_, fun ht => ?_⟩
  · have hlt : g < k := by have := ht; omega
    have e : IntKind.i64.wrap (8 * IntKind.i64.wrap (IntKind.i64.wrap ((k : Int) - 1) - (g : Int))) = ((8 * (k - 1 - g) : Nat) : Int) := by
      rw [wrap_i64_id (n := (k : Int) - 1) (by omega) (by omega), wrap_i64_id (n := (k : Int) - 1 - g) (by omega) (by omega), wrap_i64_id (by omega) (by omega)]; omega
    have hl : ((be n k).take g).length ≤ g := List.length_take_le _ _
    rw [e]
    refine ⟨by omega, by omega, g + 1, hlt, by omega, by rw [wrap_i64_id (by omega) (by omega)]; rfl, ?_⟩
    rw [shr_byte _ (by omega), be_step hlt]
  · have : k ≤ g := by have := ht; omega
    rw [List.take_of_length_le (by rw [be_len]; exact this)]
set_option maxRecDepth 100000 in
theorem ok198 : FnIs Try.prog 198 putC := by
  refine fnIs (C := (ctrs c1)) (by kernel_rfl) c1_ok Try.func198 (code := code198) (by kernel_rfl) (by kernel_rfl) ?_
  rintro a ⟨b, n, k, rfl, h, h1, h2⟩
  exact ⟨anns [(5, putAnn b n k)] [2], kcast (vc198 b n k h h1 h2) (by kernel_rfl)⟩

noncomputable def code65 : Code := match Try.f65.body with | some c => c | none => .skip
@[reducible] noncomputable def q65_1 : Nat := Try.prog.types[5].bytes
@[reducible] noncomputable def q65_2 (x0 : Nat) : Int := (↑x0 : Int)
@[reducible] def q65_3 : Prop := (true && true && true) = true
@[reducible] def q65_4 (x0 : Nat) : Prop := some (SV.c (Value.int IntKind.i64 (q65_2 x0))) = some (SV.c (Value.int IntKind.i64 (q65_2 x0)))
@[reducible] noncomputable def q65_5 (x0 : Nat) : Option SV := some (SV.c (Value.bool (decide ((8 : Int) < q65_2 x0))))
@[reducible] noncomputable def q65_6 (x0 : Nat) : Option SV := some (SV.c (Value.bool (decide (q65_2 x0 < (1 : Int)))))
@[reducible] def q65_7 : Prop := some (SV.a (0 : Nat)) = some (SV.a (0 : Nat))
set_option maxHeartbeats 4000000 in
theorem vc65 : ∀ (b : List Int) (n : Int) (k : Nat), sm b.length → (1 : Nat) ≤ k → k ≤ (8 : Nat) → True ∧ ((0 : Nat) + b.length) * q65_1 ≤ (140737488355328 : Nat) ∧
  True ∧ sw (decide (q65_2 k < (1 : Int))) ([] ++ b = b ++ be n (q65_2 k).toNat ∧ q65_3) (True ∧ sw (decide ((8 : Int) < q65_2 k)) ([] ++ b = b ++ be n (q65_2 k).toNat ∧
  q65_3) (True ∧ ∃ (g0 : Nat), g0 ≤ k ∧ IntKind.i64.wrap (q65_2 k - (1 : Int)) = q65_2 k - (1 : Int) - q65_2 g0 ∧ [] ++ b = b ++ List.take g0 (be n k) ∧ q65_3 ∧
  ∀ (g : Nat), g ≤ k → True ∧ sw (decide ((0 : Int) ≤ q65_2 k - (1 : Int) - q65_2 g)) (True ∧ (0 : Int) ≤ IntKind.u64.wrap (IntKind.i64.wrap ((8 : Int) * (q65_2 k - (1 : Int) - q65_2 g))) ∧
  True ∧ ((b ++ List.take g (be n k)).length + (1 : Nat)) * q65_1 ≤ (140737488355328 : Nat) ∧ True ∧ ∃ (g' : Nat), g' ≤ k ∧ k - g' < k - g ∧ (IntKind.i64.wrap (q65_2 k - (1 : Int) - q65_2 g - (1 : Int)) = q65_2 k - (1 : Int) - q65_2 g' ∧
  b ++ List.take g (be n k) ++ [IntKind.u8.wrap (n.fdiv ((2 : Int) ^ min (IntKind.u64.wrap (IntKind.i64.wrap ((8 : Int) * (q65_2 k - (1 : Int) - q65_2 g)))).toNat IntKind.u64.bits))] = b ++ List.take g' (be n k) ∧
  (true && true && true && true) = true) ∧ (some (SV.c (Value.int IntKind.i64 (IntKind.i64.wrap (q65_2 k - (1 : Int))))) = some (SV.c (Value.int IntKind.i64 (IntKind.i64.wrap (q65_2 k - (1 : Int))))) ∧
  q65_4 k ∧ q65_5 k = q65_5 k ∧ q65_5 k = q65_5 k ∧ q65_4 k ∧ some (SV.b false) = some (SV.b false) ∧ q65_6 k = q65_6 k ∧ q65_4 k ∧ some (SV.a (2 : Nat)) = some (SV.a (2 : Nat)) ∧
  q65_7 ∧ some (SV.a (1 : Nat)) = some (SV.a (1 : Nat)) ∧ some SV.nil = some SV.nil ∧ q65_7 ∧ some (SV.c (Value.int IntKind.u64 n)) = some (SV.c (Value.int IntKind.u64 n)) ∧
  q65_4 k ∧ True) ∧ some R.dead = some R.dead ∧ some (R.ro (D.ints IntKind.u8 b)) = some (R.ro (D.ints IntKind.u8 b)) ∧ True) (b ++ List.take g (be n k) = b ++ be n (q65_2 k).toNat ∧
  q65_3))) := by
  delta q65_1 q65_2 q65_3 q65_4 q65_5 q65_6 q65_7
  simp only [↓sw_iff, ↓Bool.and_eq_true, ↓decide_eq_true_eq, ↓decide_eq_false_iff_not, true_and, and_true, Int.toNat_natCast, Nat.zero_add, List.nil_append, List.length_append, Nat.mul_one, bytes5]
  intro b n k h h1 h2
  unfold sm at h
  refine ⟨by omega, fun e => absurd e (by omega), fun _ => ⟨fun e => absurd e (by omega), fun _ => ⟨0, Nat.zero_le _, by rw [wrap_i64_id (by omega) (by omega)]; omega, by simp, ?_⟩⟩⟩
  intro g hg
  refine ⟨fun ht => ?_, fun ht => ?_⟩
  · have hlt : g < k := by have := ht; omega
    have e : IntKind.u64.wrap (IntKind.i64.wrap (8 * ((k : Int) - 1 - (g : Int)))) = ((8 * (k - 1 - g) : Nat) : Int) := by
      rw [wrap_i64_id (by omega) (by omega), IntKind.wrap_u64]; omega
    have hl : ((be n k).take g).length ≤ g := List.length_take_le _ _
    rw [e]
    refine ⟨by omega, by omega, g + 1, hlt, by omega, by rw [wrap_i64_id (by omega) (by omega)]; omega, ?_⟩
    rw [shr_byte _ (by omega), be_step hlt]
  · have : k ≤ g := by have := ht; omega
    rw [List.take_of_length_le (by rw [be_len]; exact this)]
set_option maxRecDepth 100000 in
theorem ok65 : FnIs Try.prog 65 putC := by
  refine fnIs (C := (ctrs c0)) (by kernel_rfl) c0_ok Try.func65 (code := code65) (by kernel_rfl) (by kernel_rfl) ?_
  rintro a ⟨b, n, k, rfl, h, h1, h2⟩
  exact ⟨anns [(5, putAnn' b n k)] [2], kcast (vc65 b n k h h1 h2) (by kernel_rfl)⟩

noncomputable def code201 : Code := match Try.f201.body with | some c => c | none => .skip
set_option maxHeartbeats 4000000 in
theorem vc201 : ∀ (b : List Int) (i n : Int), sm b.length → okI i → okI n → True ∧ sw (decide (i < (0 : Int))) ((partF b i n).fst = [] ∧ (1 : Int) = (partF b i n).snd ∧
  true = true) (True ∧ sw (decide (n < (0 : Int))) ((partF b i n).fst = [] ∧ (1 : Int) = (partF b i n).snd ∧ true = true) (True ∧ sw (decide ((↑b.length : Int) < i)) ((partF b i n).fst = [] ∧
  (3 : Int) = (partF b i n).snd ∧ true = true) (True ∧ True ∧ sw (decide (IntKind.i64.wrap ((↑b.length : Int) - i) < n)) ((partF b i n).fst = [] ∧
  (3 : Int) = (partF b i n).snd ∧ true = true) (True ∧ ((0 : Int) ≤ i ∧ i ≤ IntKind.i64.wrap (i + n) ∧ IntKind.i64.wrap (i + n) ≤ (↑b.length : Int)) ∧
  (∃ (l : List Int), [O.d (D.ints IntKind.u8 (List.take ((IntKind.i64.wrap (i + n)).toNat - i.toNat) (List.drop i.toNat b)))] = [O.d (D.ints IntKind.u8 l)] ∧
  sm l.length) ∧ List.take ((IntKind.i64.wrap (i + n)).toNat - i.toNat) (List.drop i.toNat b) = (partF b i n).fst ∧ (0 : Int) = (partF b i n).snd ∧ (true && true && true) = true)))) := by
  simp only [↓sw_iff, ↓Bool.and_eq_true, ↓decide_eq_true_eq, ↓decide_eq_false_iff_not, true_and, and_true]
  intro b i n h h1 h2
  unfold sm at h
  unfold okI at h1 h2
  have e0 : IntKind.i64.wrap ((b.length : Int) - i) = b.length - i := wrap_i64_id (by omega) (by omega)
  have e1 : IntKind.i64.wrap (i + n) = i + n := wrap_i64_id (by omega) (by omega)
  rw [e0, e1]
  have key : partF b i n = if i < 0 ∨ n < 0 then ([], 1) else if (b.length : Int) < i ∨ (b.length : Int) - i < n then ([], 3) else ((b.drop i.toNat).take n.toNat, 0) := rfl
  refine ⟨fun t => ?_, fun t => ⟨fun t1 => ?_, fun t1 => ⟨fun t2 => ?_, fun t2 => ⟨fun t3 => ?_, fun t3 => ?_⟩⟩⟩⟩
  · rw [key, if_pos (.inl t)]; exact ⟨rfl, rfl⟩
  · rw [key, if_pos (.inr t1)]; exact ⟨rfl, rfl⟩
  · rw [key, if_neg (by have := t; have := t1; omega), if_pos (.inl t2)]; exact ⟨rfl, rfl⟩
  · rw [key, if_neg (by have := t; have := t1; omega), if_pos (.inr t3)]; exact ⟨rfl, rfl⟩
  · have a1 := t; have a2 := t1; have a3 := t2; have a4 := t3
    rw [part_get (by omega) (by omega) (by omega) (by omega), show (i + n).toNat - i.toNat = n.toNat by omega]
    have hl : ((b.drop i.toNat).take n.toNat).length ≤ b.length := by rw [List.length_take, List.length_drop]; omega
    exact ⟨by omega, ⟨_, rfl, by unfold sm; omega⟩, rfl, rfl⟩
set_option maxRecDepth 100000 in
theorem ok201 : FnIs Try.prog 201 partC := by
  refine fnIs (C := (ctrs c1)) (by kernel_rfl) c1_ok Try.func201 (code := code201) (by kernel_rfl) (by kernel_rfl) ?_
  rintro a ⟨b, i, n, rfl, h, h1, h2⟩
  exact ⟨anns [] [1, 3], kcast (vc201 b i n h h1 h2) (by kernel_rfl)⟩

noncomputable def code266 : Code := match Try.f266.body with | some c => c | none => .skip
set_option maxHeartbeats 4000000 in
theorem vc266 : ∀ (b : List Int) (i n : Int), sm b.length → okI i → okI n → True ∧ sw (decide (i < (0 : Int))) ((partF b i n).fst = [] ∧ (1 : Int) = (partF b i n).snd ∧
  true = true) (True ∧ sw (decide (n < (0 : Int))) ((partF b i n).fst = [] ∧ (1 : Int) = (partF b i n).snd ∧ true = true) (True ∧ sw (decide ((↑b.length : Int) < i)) ((partF b i n).fst = [] ∧
  (3 : Int) = (partF b i n).snd ∧ true = true) (True ∧ True ∧ sw (decide (IntKind.i64.wrap ((↑b.length : Int) - i) < n)) ((partF b i n).fst = [] ∧
  (3 : Int) = (partF b i n).snd ∧ true = true) (True ∧ ((0 : Int) ≤ i ∧ i ≤ IntKind.i64.wrap (i + n) ∧ IntKind.i64.wrap (i + n) ≤ (↑b.length : Int)) ∧
  True ∧ ((0 : Nat) + (List.take ((IntKind.i64.wrap (i + n)).toNat - i.toNat) (List.drop i.toNat b)).length) * Try.prog.types[5].bytes ≤ (140737488355328 : Nat) ∧
  [] ++ List.take ((IntKind.i64.wrap (i + n)).toNat - i.toNat) (List.drop i.toNat b) = (partF b i n).fst ∧ (0 : Int) = (partF b i n).snd ∧ (true && true && true) = true)))) := by
  simp only [↓sw_iff, ↓Bool.and_eq_true, ↓decide_eq_true_eq, ↓decide_eq_false_iff_not, true_and, and_true, Nat.zero_add, List.nil_append, Nat.mul_one, bytes5]
  intro b i n h h1 h2
  unfold sm at h
  unfold okI at h1 h2
  have e0 : IntKind.i64.wrap ((b.length : Int) - i) = b.length - i := wrap_i64_id (by omega) (by omega)
  have e1 : IntKind.i64.wrap (i + n) = i + n := wrap_i64_id (by omega) (by omega)
  rw [e0, e1]
  have key : partF b i n = if i < 0 ∨ n < 0 then ([], 1) else if (b.length : Int) < i ∨ (b.length : Int) - i < n then ([], 3) else ((b.drop i.toNat).take n.toNat, 0) := rfl
  refine ⟨fun t => ?_, fun t => ⟨fun t1 => ?_, fun t1 => ⟨fun t2 => ?_, fun t2 => ⟨fun t3 => ?_, fun t3 => ?_⟩⟩⟩⟩
  · rw [key, if_pos (.inl t)]; exact ⟨rfl, rfl⟩
  · rw [key, if_pos (.inr t1)]; exact ⟨rfl, rfl⟩
  · rw [key, if_neg (by have := t; have := t1; omega), if_pos (.inl t2)]; exact ⟨rfl, rfl⟩
  · rw [key, if_neg (by have := t; have := t1; omega), if_pos (.inr t3)]; exact ⟨rfl, rfl⟩
  · have a1 := t; have a2 := t1; have a3 := t2; have a4 := t3
    rw [part_get (by omega) (by omega) (by omega) (by omega), show (i + n).toNat - i.toNat = n.toNat by omega]
    have hl : ((b.drop i.toNat).take n.toNat).length ≤ b.length := by rw [List.length_take, List.length_drop]; omega
    exact ⟨by omega, by omega, rfl, rfl⟩
set_option maxRecDepth 100000 in
theorem ok266 : FnIs Try.prog 266 partC := by
  refine fnIs (C := (ctrs c0)) (by kernel_rfl) c0_ok Try.func266 (code := code266) (by kernel_rfl) (by kernel_rfl) ?_
  rintro a ⟨b, i, n, rfl, h, h1, h2⟩
  exact ⟨anns [] [1, 3], kcast (vc266 b i n h h1 h2) (by kernel_rfl)⟩

theorem c2_ok : COk Try.prog (ctrs c2) := cok_cons ok201 (cok_cons ok266 cok_nil)

noncomputable def code205 : Code := match Try.f205.body with | some c => c | none => .skip
@[reducible] noncomputable def q205_0 (x0 : Nat) : Int := (↑x0 : Int)
@[reducible] def q205_1 : Prop := true = true
@[reducible] def q205_2 (x0 : List Int) (x1 : Int) (x2 : Nat) : Prop := (0 : Int) = valF (partF x0 x1 (↑(q205_0 x2).toNat : Int)).fst ∧ (1 : Int) = (partF x0 x1 (↑(q205_0 x2).toNat : Int)).snd ∧
  q205_1
@[reducible] noncomputable def q205_3 (x0 : List Int) (x1 : Int) (x2 : Nat) : Int := (↑(partF x0 x1 (q205_0 x2)).fst.length : Int)
@[reducible] def q205_4 : Prop := some (SV.a (1 : Nat)) = some (SV.a (1 : Nat))
@[reducible] def q205_5 (x0 : List Int) (x1 : Int) (x2 : Nat) : Prop := some (SV.c (Value.int IntKind.i64 (partF x0 x1 (q205_0 x2)).snd)) = some (SV.c (Value.int IntKind.i64 (partF x0 x1 (q205_0 x2)).snd))
@[reducible] def q205_6 (x0 : List Int) (x1 : Int) (x2 : Nat) : Prop := some (SV.tup [SV.a (1 : Nat), SV.c (Value.int IntKind.i64 (partF x0 x1 (q205_0 x2)).snd)]) = some (SV.tup [SV.a (1 : Nat), SV.c (Value.int IntKind.i64 (partF x0 x1 (q205_0 x2)).snd)])
@[reducible] def q205_7 (x0 : Nat) : Prop := some (SV.c (Value.int IntKind.i64 (q205_0 x0))) = some (SV.c (Value.int IntKind.i64 (q205_0 x0)))
@[reducible] def q205_8 (x0 : Int) : Prop := some (SV.c (Value.int IntKind.i64 x0)) = some (SV.c (Value.int IntKind.i64 x0))
@[reducible] def q205_9 : Prop := some (SV.a (0 : Nat)) = some (SV.a (0 : Nat))
@[reducible] noncomputable def q205_10 (x0 : Nat) : Option SV := some (SV.c (Value.bool (decide ((8 : Int) < q205_0 x0))))
@[reducible] noncomputable def q205_11 (x0 : Nat) : Option SV := some (SV.c (Value.bool (decide (q205_0 x0 < (1 : Int)))))
set_option maxHeartbeats 4000000 in
theorem vc205 : ∀ (b : List Int) (i : Int) (k : Nat), sm b.length → okB b → okI i → (1 : Nat) ≤ k → k ≤ (8 : Nat) → True ∧ sw (decide (q205_0 k < (1 : Int))) (q205_2 b i k) (True ∧
  sw (decide ((8 : Int) < q205_0 k)) (q205_2 b i k) ((∃ (b_1 : List Int), ∃ (i_1 : Int), ∃ (n : Int), [O.d (D.ints IntKind.u8 b), iO .i64 i, iO .i64 (q205_0 k)] = [O.d (D.ints IntKind.u8 b_1), iO .i64 i_1, iO .i64 n] ∧
  sm b_1.length ∧ okI i_1 ∧ okI n) ∧ ∃ (g0 : Nat), g0 ≤ (partF b i (q205_0 k)).fst.length ∧ (0 : Int) = q205_0 g0 ∧ (0 : Int) = valF (List.take g0 (partF b i (q205_0 k)).fst) ∧
  q205_1 ∧ ∀ (g : Nat), g ≤ (partF b i (q205_0 k)).fst.length → True ∧ sw (decide (q205_0 g < q205_3 b i k)) (((0 : Int) ≤ q205_0 g ∧ q205_0 g < q205_3 b i k) ∧
  (0 : Int) ≤ (8 : Int) ∧ True ∧ True ∧ ∃ (g' : Nat), g' ≤ (partF b i (q205_0 k)).fst.length ∧ (partF b i (q205_0 k)).fst.length - g' < (partF b i (q205_0 k)).fst.length - g ∧
  (IntKind.i64.wrap (q205_0 g + (1 : Int)) = q205_0 g' ∧ bits BinOp.or IntKind.u64 (IntKind.u64.wrap (valF (List.take g (partF b i (q205_0 k)).fst) * (2 : Int) ^ min (Int.toNat (8 : Int)) IntKind.u64.bits)) (IntKind.u64.wrap ((partF b i (q205_0 k)).fst.getD (q205_0 g).toNat (0 : Int))) = valF (List.take g' (partF b i (q205_0 k)).fst) ∧
  (true && true && true) = true) ∧ (some (SV.c (Value.int IntKind.i64 (q205_3 b i k))) = some (SV.c (Value.int IntKind.i64 (q205_3 b i k))) ∧ q205_4 ∧ q205_5 b i k ∧
  q205_4 ∧ q205_5 b i k ∧ q205_4 ∧ q205_6 b i k ∧ q205_6 b i k ∧ q205_7 k ∧ q205_8 i ∧ q205_9 ∧ q205_10 k = q205_10 k ∧ q205_10 k = q205_10 k ∧ q205_7 k ∧
  some (SV.b false) = some (SV.b false) ∧ q205_11 k = q205_11 k ∧ q205_7 k ∧ q205_9 ∧ q205_8 i ∧ q205_7 k ∧ True) ∧ some (R.own (5 : Nat) (D.ints IntKind.u8 (partF b i (q205_0 k)).fst)) = some (R.own (5 : Nat) (D.ints IntKind.u8 (partF b i (q205_0 k)).fst)) ∧
  some (R.ro (D.ints IntKind.u8 b)) = some (R.ro (D.ints IntKind.u8 b)) ∧ True) (valF (List.take g (partF b i (q205_0 k)).fst) = valF (partF b i (↑(q205_0 k).toNat : Int)).fst ∧
  (partF b i (q205_0 k)).snd = (partF b i (↑(q205_0 k).toNat : Int)).snd ∧ q205_1))) := by
  delta q205_0 q205_1 q205_2 q205_3 q205_4 q205_5 q205_6 q205_7 q205_8 q205_9 q205_10 q205_11 iO
  simp only [↓sw_iff, ↓Bool.and_eq_true, ↓decide_eq_true_eq, ↓decide_eq_false_iff_not, true_and, and_true, Int.toNat_natCast]
  intro b i k h hb h1 h2 h3
  have hp := part_ok hb i (k : Int)
  have hl := part_len (b := b) (i := i) (k := k)
  refine ⟨fun t => absurd t (by omega), fun _ => ⟨fun t => absurd t (by omega), fun _ => ⟨⟨b, i, k, rfl, h, h1, by unfold okI; omega⟩, 0, Nat.zero_le _, rfl, rfl, ?_⟩⟩⟩
  intro g hg
  refine ⟨fun t => ?_, fun t => ?_⟩
  · have hlt : g < (partF b i (k : Int)).1.length := by have := t; omega
    have hx := okB_getD hp g
    have hv := val_small (okB_take hp g) (by rw [List.length_take]; omega)
    refine ⟨⟨by omega, by omega⟩, by omega, g + 1, hlt, by omega, by rw [wrap_i64_id (by omega) (by omega)]; rfl, ?_⟩
    rw [or_byte hv.1 hv.2 hx.1 hx.2, take_succ_getD hlt, val_snoc]
  · rw [List.take_of_length_le (by have := t; omega)]
set_option maxRecDepth 100000 in
theorem ok205 : FnIs Try.prog 205 (getC 8) := by
  refine fnIs (C := (ctrs c2)) (by kernel_rfl) c2_ok Try.func205 (code := code205) (by kernel_rfl) (by kernel_rfl) ?_
  rintro a ⟨b, i, k, rfl, h, hb, h1, h2, h3⟩
  exact ⟨anns [(5, valAnn 26 6 (partF b i k).1)] [1], kcast (vc205 b i k h hb h1 h2 h3) (by kernel_rfl)⟩

noncomputable def code245 : Code := match Try.f245.body with | some c => c | none => .skip
@[reducible] noncomputable def q245_0 (x0 : Nat) : Int := (↑x0 : Int)
@[reducible] def q245_1 : Prop := true = true
@[reducible] def q245_2 (x0 : List Int) (x1 : Int) (x2 : Nat) : Prop := (0 : Int) = valF (partF x0 x1 (↑(q245_0 x2).toNat : Int)).fst ∧ (1 : Int) = (partF x0 x1 (↑(q245_0 x2).toNat : Int)).snd ∧
  q245_1
@[reducible] noncomputable def q245_3 (x0 : List Int) (x1 : Int) (x2 : Nat) : Bool := !decide ((partF x0 x1 (q245_0 x2)).snd = (0 : Int))
@[reducible] def q245_4 (x0 : List Int) (x1 : Int) (x2 : Nat) : Prop := some (SV.c (Value.int IntKind.i64 (partF x0 x1 (q245_0 x2)).snd)) = some (SV.c (Value.int IntKind.i64 (partF x0 x1 (q245_0 x2)).snd))
@[reducible] def q245_5 : Prop := some (SV.a (1 : Nat)) = some (SV.a (1 : Nat))
@[reducible] def q245_6 (x0 : List Int) (x1 : Int) (x2 : Nat) : Prop := some (SV.tup [SV.a (1 : Nat), SV.c (Value.int IntKind.i64 (partF x0 x1 (q245_0 x2)).snd)]) = some (SV.tup [SV.a (1 : Nat), SV.c (Value.int IntKind.i64 (partF x0 x1 (q245_0 x2)).snd)])
@[reducible] def q245_7 (x0 : Nat) : Prop := some (SV.c (Value.int IntKind.i64 (q245_0 x0))) = some (SV.c (Value.int IntKind.i64 (q245_0 x0)))
@[reducible] def q245_8 (x0 : Int) : Prop := some (SV.c (Value.int IntKind.i64 x0)) = some (SV.c (Value.int IntKind.i64 x0))
@[reducible] def q245_9 : Prop := some (SV.a (0 : Nat)) = some (SV.a (0 : Nat))
@[reducible] noncomputable def q245_10 (x0 : Int) : Option SV := some (SV.c (Value.bool (decide (x0 < (0 : Int)))))
@[reducible] def q245_11 : Prop := some (SV.b false) = some (SV.b false)
@[reducible] noncomputable def q245_12 (x0 : Nat) : Option SV := some (SV.c (Value.bool (decide ((8 : Int) < q245_0 x0))))
@[reducible] noncomputable def q245_13 (x0 : Nat) : Option SV := some (SV.c (Value.bool (decide (q245_0 x0 < (1 : Int)))))
set_option maxHeartbeats 4000000 in
theorem vc245 : ∀ (b : List Int) (i : Int) (k : Nat), sm b.length → okB b → okI i → (1 : Nat) ≤ k → k ≤ (8 : Nat) → True ∧ sw (decide (q245_0 k < (1 : Int))) (q245_2 b i k) (True ∧
  sw (decide ((8 : Int) < q245_0 k)) (q245_2 b i k) (True ∧ sw (decide (i < (0 : Int))) (q245_2 b i k) ((∃ (b_1 : List Int), ∃ (i_1 : Int), ∃ (n : Int), [O.d (D.ints IntKind.u8 b), iO .i64 i, iO .i64 (q245_0 k)] = [O.d (D.ints IntKind.u8 b_1), iO .i64 i_1, iO .i64 n] ∧
  sm b_1.length ∧ okI i_1 ∧ okI n) ∧ True ∧ sw (q245_3 b i k) ((0 : Int) = valF (partF b i (↑(q245_0 k).toNat : Int)).fst ∧ (partF b i (q245_0 k)).snd = (partF b i (↑(q245_0 k).toNat : Int)).snd ∧
  q245_1) (∃ (g0 : Nat), g0 ≤ (partF b i (q245_0 k)).fst.length ∧ (0 : Int) = q245_0 g0 ∧ (0 : Int) = valF (List.take g0 (partF b i (q245_0 k)).fst) ∧ q245_1 ∧
  ∀ (g : Nat), g ≤ (partF b i (q245_0 k)).fst.length → True ∧ sw (decide (q245_0 g < (↑(partF b i (q245_0 k)).fst.length : Int))) (True ∧ ((0 : Int) ≤ q245_0 g ∧
  q245_0 g < (↑(partF b i (q245_0 k)).fst.length : Int)) ∧ True ∧ True ∧ ∃ (g' : Nat), g' ≤ (partF b i (q245_0 k)).fst.length ∧ (partF b i (q245_0 k)).fst.length - g' < (partF b i (q245_0 k)).fst.length - g ∧
  (IntKind.i64.wrap (q245_0 g + (1 : Int)) = q245_0 g' ∧ IntKind.u64.wrap (IntKind.u64.wrap (valF (List.take g (partF b i (q245_0 k)).fst) * (256 : Int)) + IntKind.u64.wrap ((partF b i (q245_0 k)).fst.getD (q245_0 g).toNat (0 : Int))) = valF (List.take g' (partF b i (q245_0 k)).fst) ∧
  (true && true && true) = true) ∧ (some (SV.c (Value.bool (q245_3 b i k))) = some (SV.c (Value.bool (q245_3 b i k))) ∧ q245_4 b i k ∧ q245_4 b i k ∧ q245_5 ∧
  q245_4 b i k ∧ q245_5 ∧ q245_6 b i k ∧ q245_6 b i k ∧ q245_7 k ∧ q245_8 i ∧ q245_9 ∧ q245_10 i = q245_10 i ∧ q245_10 i = q245_10 i ∧ q245_8 i ∧ q245_11 ∧
  q245_12 k = q245_12 k ∧ q245_12 k = q245_12 k ∧ q245_7 k ∧ q245_11 ∧ q245_13 k = q245_13 k ∧ q245_7 k ∧ some (SV.c (Value.int IntKind.i64 (0 : Int))) = some (SV.c (Value.int IntKind.i64 (0 : Int))) ∧
  some (SV.c (Value.int IntKind.u64 (0 : Int))) = some (SV.c (Value.int IntKind.u64 (0 : Int))) ∧ q245_9 ∧ q245_8 i ∧ q245_7 k ∧ True) ∧ some (R.own (5 : Nat) (D.ints IntKind.u8 (partF b i (q245_0 k)).fst)) = some (R.own (5 : Nat) (D.ints IntKind.u8 (partF b i (q245_0 k)).fst)) ∧
  some (R.ro (D.ints IntKind.u8 b)) = some (R.ro (D.ints IntKind.u8 b)) ∧ True) (valF (List.take g (partF b i (q245_0 k)).fst) = valF (partF b i (↑(q245_0 k).toNat : Int)).fst ∧
  (0 : Int) = (partF b i (↑(q245_0 k).toNat : Int)).snd ∧ q245_1))))) := by
  delta q245_0 q245_1 q245_2 q245_3 q245_4 q245_5 q245_6 q245_7 q245_8 q245_9 q245_10 q245_11 q245_12 q245_13 iO
  simp only [↓sw_iff, ↓Bool.and_eq_true, ↓decide_eq_true_eq, ↓decide_eq_false_iff_not, ↓Bool.not_eq_true', ↓Bool.not_eq_false', true_and, and_true, Int.toNat_natCast]
  intro b i k h hb h1 h2 h3
  have hp := part_ok hb i (k : Int)
  have hl := part_len (b := b) (i := i) (k := k)
  have he := part_err b i (k : Int)
  refine ⟨fun t => absurd t (by omega), fun _ => ⟨fun t => absurd t (by omega), fun _ => ⟨fun t => ?_, fun _ => ⟨⟨b, i, k, rfl, h, h1, by unfold okI; omega⟩, fun t => ?_, fun t => ⟨0, Nat.zero_le _, rfl, rfl, ?_⟩⟩⟩⟩⟩
  · have key : partF b i (k : Int) = ([], 1) := by unfold partF; rw [if_pos (.inl t)]
    rw [key]; exact ⟨rfl, rfl⟩
  · rw [he t]; rfl
  have he0 : (partF b i (k : Int)).2 = 0 := t
  intro g hg
  refine ⟨fun t => ?_, fun t => ?_⟩
  · have hlt : g < (partF b i (k : Int)).1.length := by have := t; omega
    have hx := okB_getD hp g
    have hv := val_small (okB_take hp g) (by rw [List.length_take]; omega)
    have hv2 : valF ((partF b i (k : Int)).1.take g) < 72057594037927936 := hv.2
    refine ⟨⟨by omega, by omega⟩, g + 1, hlt, by omega, by rw [wrap_i64_id (by omega) (by omega)]; rfl, ?_⟩
    rw [take_succ_getD hlt, val_snoc, IntKind.wrap_u64, IntKind.wrap_u64, IntKind.wrap_u64]
    omega
  · rw [List.take_of_length_le (by have := t; omega)]
    exact ⟨rfl, he0.symm⟩
set_option maxRecDepth 100000 in
theorem ok245 : FnIs Try.prog 245 (getC 8) := by
  refine fnIs (C := (ctrs c2)) (by kernel_rfl) c2_ok Try.func245 (code := code245) (by kernel_rfl) (by kernel_rfl) ?_
  rintro a ⟨b, i, k, rfl, h, hb, h1, h2, h3⟩
  exact ⟨anns [(8, valAnn 11 10 (partF b i k).1)] [1], kcast (vc245 b i k h hb h1 h2 h3) (by kernel_rfl)⟩

theorem c3_ok : COk Try.prog (ctrs c3) := cok_cons ok245 cok_nil

noncomputable def code212 : Code := match Try.f212.body with | some c => c | none => .skip
set_option maxHeartbeats 4000000 in
theorem vc212 : ∀ (b : List Int) (i : Int) (k : Nat), sm b.length → okB b → okI i → (1 : Nat) ≤ k → k ≤ (7 : Nat) → (∃ (b_1 : List Int), ∃ (i_1 : Int), ∃ (k_1 : Nat), [O.d (D.ints IntKind.u8 b), iO .i64 i, iO .i64 (↑k : Int)] = [O.d (D.ints IntKind.u8 b_1), iO .i64 i_1, iO .i64 (↑k_1 : Int)] ∧
  sm b_1.length ∧ okB b_1 ∧ okI i_1 ∧ (1 : Nat) ≤ k_1 ∧ k_1 ≤ (8 : Nat)) ∧ IntKind.i64.wrap (valF (partF b i (↑(↑k : Int).toNat : Int)).fst) = valF (partF b i (↑(↑k : Int).toNat : Int)).fst ∧
  true = true := by
  delta iO
  simp only [and_true, Int.toNat_natCast]
  intro b i k h hb h1 h2 h3
  refine ⟨⟨b, i, k, rfl, h, hb, h1, h2, by omega⟩, ?_⟩
  have hs := val_small (part_ok hb i (k : Int)) (Nat.le_trans part_len h3)
  have h7 : (256 : Int) ^ 7 = 72057594037927936 := rfl
  rw [wrap_i64_id (by omega) (by omega)]
set_option maxRecDepth 100000 in
theorem ok212 : FnIs Try.prog 212 numC := by
  refine fnIs (C := (ctrs c3)) (by kernel_rfl) c3_ok Try.func212 (code := code212) (by kernel_rfl) (by kernel_rfl) ?_
  rintro a ⟨b, i, k, rfl, h, hb, h1, h2, h3⟩
  exact ⟨anns [], kcast (vc212 b i k h hb h1 h2 h3) (by kernel_rfl)⟩

end Go.ZR

set_option maxRecDepth 100000
namespace Go.ZM
open Go.Z Go.ZR
def tabF : List Int := [0, 274646895, 549293790, 820201905, 1098587580, 1361435347, 1640403810, 1905808397, 2197175160, 2460548119, 2722870694, 2987750089, 3280807620, 3553878443, 3811616794, 4084100981]
def tabL (i : Nat) : List Int := (List.range 16).map fun j => if j < i then iv (sN 4 (bv j)) else 0
def ckR (c : BitVec 32) (x : Int) (k : Nat) : BitVec 32 := sN k (c ^^^ bv x) ^^^ (bv x >>> k)
end Go.ZM
namespace Go.ZR
open Go.Z Go.ZM Go.Proofs
def moreC : Ctr := nC 2 false (fun a => ∃ s b, a = [iO .u32 s, bsO b] ∧ (0 ≤ s ∧ s ≤ 4294967295) ∧ sm b.length ∧ okB b) fun a => [iO .u32 (moreF (vi (dO (at_ a 0))) (vl (dO (at_ a 1))))]
def csumC : Ctr := nC 1 false (fun a => ∃ b, a = [bsO b] ∧ sm b.length ∧ okB b) fun a => [iO .u32 (sumF (vl (dO (at_ a 0))))]
def tableC : Ctr := nC 0 false (fun a => a = []) fun _ => [.va .u32 tabF]
def moreAnn (s t : Nat) (c : BitVec 32) (b : List Int) : LoopAnn where
  γ := Nat
  pre := fun i => i ≤ b.length
  μ := fun i => b.length - i
  items := fun i => [(s, .c (iO .i64 (i : Int))), (t, .c (iO .u32 (iv (crcR c (b.take i)))))]
def bitAnn (s t : Nat) (c : BitVec 32) (b : List Int) : LoopF := .fam Nat fun i =>
  { γ := Nat
    pre := fun k => k ≤ 8
    μ := fun k => 8 - k
    items := fun k => [(s, .c (iO .i64 (k : Int))), (t, .c (iO .u32 (iv (ckR (crcR c (b.take i)) (b.getD i 0) k))))] }
def tabAnn (s t : Nat) : LoopAnn where
  γ := Nat
  pre := fun i => i ≤ 16
  μ := fun i => 16 - i
  items := fun i => [(s, .c (iO .i64 (i : Int))), (t, .c (.arr 359 .u32 (tabL i)))]
def tabBit (s t : Nat) : LoopF := .fam Nat fun i =>
  { γ := Nat
    pre := fun k => k ≤ 4
    μ := fun k => 4 - k
    items := fun k => [(s, .c (iO .i64 (k : Int))), (t, .c (iO .u32 (iv (sN k (bv i)))))] }
def k1 : List (Nat × Ctr) := [(273, tableC)]
def k2 : List (Nat × Ctr) := [(263, moreC)]
def k3 : List (Nat × Ctr) := [(265, moreC)]
end Go.ZR
