/- Bytes and numbers: walks -/
import Derived.Test.YtonfaeenoifomaaRows
import Derived.Test.YtonfaeenoifomaaC1
namespace Go.ZR
open Go.Proofs
open Go.Z Go.ZM Go.RowKit
set_option maxRecDepth 100000
theorem bytes5 : Try.prog.types[(5 : Nat)].bytes = 1 := by kernel_rfl
theorem part_get {b : List Int} {i n : Int} (h0 : 0 ≤ i) (h1 : 0 ≤ n) (h2 : i ≤ b.length) (h3 : n ≤ b.length - i) : partF b i n = ((b.drop i.toNat).take n.toNat, 0) := by
  unfold partF; rw [if_neg (by omega), if_neg (by omega)]
theorem part_err (b : List Int) (i n : Int) : (partF b i n).2 ≠ 0 → (partF b i n).1 = [] := by
  unfold partF
  split
  · intro _; rfl
  split
  · intro _; rfl
  · intro h; exact absurd rfl h
theorem be_step {b : List Int} {n : Int} {g k : Nat} (hg : g < k) : b ++ (be n k).take g ++ [(n / 256 ^ (k - 1 - g)) % 256] = b ++ (be n k).take (g + 1) := by
  rw [take_succ_getD (by rw [be_len]; exact hg), be_get n hg, List.append_assoc]
theorem val_small {l : List Int} (h : okB l) (hl : l.length ≤ 7) : 0 ≤ valF l ∧ valF l < 256 ^ 7 := by
  have h1 := val_lt h
  have h2 : (256 : Int) ^ l.length ≤ 256 ^ 7 := by
    have : ∀ k : Nat, k ≤ 7 → (256 : Int) ^ k ≤ 256 ^ 7 := by decide
    exact this _ hl
  exact ⟨val_nonneg h, by omega⟩
noncomputable def code54 : Code := match Try.f54.body with | some c => c | none => .skip
set_option maxHeartbeats 4000000 in
theorem vc54 : ∀ (l : List Int), sm l.length → ∀ (t : Bool), (t = true → l.length = (0 : Nat)) → sw t (vl (D.ints IntKind.u8 l) = [] ∧ (true && true) = true) (True ∧ ((0 : Nat) + l.length) * Try.prog.types[(5 : Nat)].bytes ≤ (140737488355328 : Nat) ∧
  [] ++ l = vl (D.ints IntKind.u8 l) ∧ (!false && true && true) = true) := by
  simp only [↓sw_iff, true_and, and_true, Bool.and_self, Bool.not_false, vl, Nat.zero_add, List.nil_append, Nat.mul_one, bytes5]
  intro l h t ht
  unfold sm at h
  exact ⟨fun e => by have := ht e; exact List.length_eq_zero_iff.1 this, fun _ => by omega⟩
set_option maxRecDepth 100000 in
theorem ok54 : FnIs Try.prog 54 cloneC := by
  refine fnIs (C := (ctrs c0)) (by kernel_rfl) c0_ok Try.func54 (code := code54) (by kernel_rfl) (by kernel_rfl) ?_
  rintro a ⟨l, rfl, h⟩
  exact ⟨anns [], kcast (vc54 l h) (by kernel_rfl)⟩

noncomputable def code67 : Code := match Try.f67.body with | some c => c | none => .skip
set_option maxHeartbeats 4000000 in
theorem vc67 : ∀ (n : Nat), n ≤ (2199023255552 : Nat) → True ∧ True ∧ bits BinOp.and IntKind.i64 (IntKind.i64.wrap ((0 : Int) - (↑n : Int))) (3 : Int) = (↑(padN (vi (D.v (Value.int IntKind.i64 (↑n : Int)))).toNat) : Int) ∧
  (true && true) = true := by
  simp only [true_and, and_true, Bool.and_self, Int.toNat_natCast, vi]
  intro n h
  exact and_three
set_option maxRecDepth 100000 in
theorem ok67 : FnIs Try.prog 67 padC := by
  refine fnIs (C := (ctrs c0)) (by kernel_rfl) c0_ok Try.func67 (code := code67) (by kernel_rfl) (by kernel_rfl) ?_
  rintro a ⟨n, rfl, h⟩
  exact ⟨anns [], kcast (vc67 n h) (by kernel_rfl)⟩

theorem c1_ok : COk Try.prog (ctrs c1) := cok_cons ok54 (cok_cons ok67 cok_nil)

noncomputable def code51 : Code := match Try.f51.body with | some c => c | none => .skip
set_option maxHeartbeats 4000000 in
theorem vc51 : ∀ (n : Nat), n ≤ (2199023255552 : Nat) → True ∧ (4 : Int) ≠ (0 : Int) ∧ True ∧ sw (decide ((↑n : Int).tmod (4 : Int) = (0 : Int))) ((0 : Int) = (↑(padN (vi (D.v (Value.int IntKind.i64 (↑n : Int)))).toNat) : Int) ∧
  (true && true) = true) ((4 : Int) ≠ (0 : Int) ∧ True ∧ IntKind.i64.wrap ((4 : Int) - (↑n : Int).tmod (4 : Int)) = (↑(padN (vi (D.v (Value.int IntKind.i64 (↑n : Int)))).toNat) : Int) ∧
  (true && true) = true) := by
  simp only [↓sw_iff, ↓decide_eq_true_eq, ↓decide_eq_false_iff_not, true_and, and_true, Bool.and_self, Int.toNat_natCast, vi]
  intro n h
  have e : (n : Int).tmod 4 = ((n % 4 : Nat) : Int) := rfl
  rw [e]
  refine ⟨by decide, fun h => ?_, fun h => ⟨by decide, ?_⟩⟩
  · have := h
    unfold padN; omega
  · have := h
    rw [wrap_i64_id (by omega) (by omega)]
    unfold padN; omega
set_option maxRecDepth 100000 in
theorem ok51 : FnIs Try.prog 51 padC := by
  refine fnIs (C := (ctrs c0)) (by kernel_rfl) c0_ok Try.func51 (code := code51) (by kernel_rfl) (by kernel_rfl) ?_
  rintro a ⟨n, rfl, h⟩
  exact ⟨anns [] [1], kcast (vc51 n h) (by kernel_rfl)⟩

noncomputable def code46 : Code := match Try.f46.body with | some c => c | none => .skip
set_option maxHeartbeats 4000000 in
theorem vc46 : ∀ (l : List Int), sm l.length → (∃ (l_1 : List Int), [O.d (D.ints IntKind.u8 l)] = [O.d (D.ints IntKind.u8 l_1)] ∧ sm l_1.length) ∧ (∃ (n : Nat), [O.d (D.v (Value.int IntKind.i64 (↑l.length : Int)))] = [O.d (D.v (Value.int IntKind.i64 (↑n : Int)))] ∧
  n ≤ (2199023255552 : Nat)) ∧ ((0 : Int) ≤ (↑(padN (vi (D.v (Value.int IntKind.i64 (↑l.length : Int)))).toNat) : Int) ∧ (↑(padN (vi (D.v (Value.int IntKind.i64 (↑l.length : Int)))).toNat) : Int) ≤ (9223372036854775807 : Int) ∧
  (↑(padN (vi (D.v (Value.int IntKind.i64 (↑l.length : Int)))).toNat) : Int).toNat * Try.prog.types[(5 : Nat)].bytes ≤ (281474976710656 : Nat) ∧ IntKind.u8 = IntKind.u8) ∧
  ((vl (D.ints IntKind.u8 l)).length + (List.replicate (↑(padN (vi (D.v (Value.int IntKind.i64 (↑l.length : Int)))).toNat) : Int).toNat (0 : Int)).length) * Try.prog.types[(5 : Nat)].bytes ≤ (140737488355328 : Nat) ∧
  vl (D.ints IntKind.u8 l) ++ List.replicate (↑(padN (vi (D.v (Value.int IntKind.i64 (↑l.length : Int)))).toNat) : Int).toNat (0 : Int) = padF (vl (D.ints IntKind.u8 l)) ∧
  (!false && true && true) = true := by
  simp only [and_true, Bool.and_self, Bool.not_false, Int.toNat_natCast, vi, vl, Nat.mul_one, bytes5, List.length_replicate]
  intro l h
  have hp := padN_le l.length
  refine ⟨⟨l, rfl, h⟩, ⟨l.length, rfl, ?_⟩, ⟨by omega, by omega, by omega⟩, ?_, rfl⟩ <;> unfold sm at h <;> omega
set_option maxRecDepth 100000 in
theorem ok46 : FnIs Try.prog 46 paddedC := by
  refine fnIs (C := (ctrs c1)) (by kernel_rfl) c1_ok Try.func46 (code := code46) (by kernel_rfl) (by kernel_rfl) ?_
  rintro a ⟨l, rfl, h⟩
  exact ⟨anns [], kcast (vc46 l h) (by kernel_rfl)⟩

noncomputable def code48 : Code := match Try.f48.body with | some c => c | none => .skip
set_option maxHeartbeats 4000000 in
theorem vc48 : ∀ (l : List Int), sm l.length → True ∧ ((0 : Nat) + l.length) * Try.prog.types[(5 : Nat)].bytes ≤ (140737488355328 : Nat) ∧ ∃ (g0 : Nat), g0 ≤ padN l.length ∧
  [] ++ l = l ++ List.replicate g0 (0 : Int) ∧ (!false && true && true) = true ∧ ∀ (g : Nat), g ≤ padN l.length → (4 : Int) ≠ (0 : Int) ∧ True ∧ sw (!decide ((↑(l ++ List.replicate g (0 : Int)).length : Int).tmod (4 : Int) = (0 : Int))) (True ∧
  ((l ++ List.replicate g (0 : Int)).length + (1 : Nat)) * Try.prog.types[(5 : Nat)].bytes ≤ (140737488355328 : Nat) ∧ ∃ (g' : Nat), g' ≤ padN l.length ∧
  padN l.length - g' < padN l.length - g ∧ (l ++ List.replicate g (0 : Int) ++ [(0 : Int)] = l ++ List.replicate g' (0 : Int) ∧ (!false && true && true && ((Nat.ble (3 : Nat) (5 : Nat) || (Nat.beq (2 : Nat) (5 : Nat) || false)) && true)) = true) ∧
  (some (SV.a (2 : Nat)) = some (SV.a (2 : Nat)) ∧ some (SV.a (0 : Nat)) = some (SV.a (0 : Nat)) ∧ some (SV.a (1 : Nat)) = some (SV.a (1 : Nat)) ∧ some SV.nil = some SV.nil ∧
  some (SV.a (0 : Nat)) = some (SV.a (0 : Nat)) ∧ True) ∧ some R.dead = some R.dead ∧ some (R.ro (D.ints IntKind.u8 l)) = some (R.ro (D.ints IntKind.u8 l)) ∧
  True) (l ++ List.replicate g (0 : Int) = padF (vl (D.ints IntKind.u8 l)) ∧ (!false && true && true) = true) := by
  simp only [↓sw_iff, ↓decide_eq_true_eq, ↓decide_eq_false_iff_not, ↓Bool.not_eq_true', ↓Bool.not_eq_false', true_and, and_true, Bool.and_self, Bool.not_false, Bool.or_false, Nat.ble, Nat.beq, vl, Nat.zero_add, List.nil_append, List.length_append, Nat.mul_one, bytes5, List.length_replicate]
  intro l h
  unfold sm at h
  refine ⟨by omega, 0, Nat.zero_le _, by simp, ?_⟩
  intro g hg
  have e : ((l.length + g : Nat) : Int).tmod 4 = (((l.length + g) % 4 : Nat) : Int) := rfl
  rw [e]
  have hp := padN_le l.length
  refine ⟨by decide, fun ht => ⟨by omega, g + 1, ?_, ?_, ?_⟩, fun ht => ?_⟩
  · have : ¬ (((l.length + g) % 4 : Nat) : Int) = 0 := ht
    unfold padN at hg ⊢; omega
  · have : ¬ (((l.length + g) % 4 : Nat) : Int) = 0 := ht
    unfold padN at hg ⊢; omega
  · rw [List.replicate_succ', List.append_assoc]
  · have : (((l.length + g) % 4 : Nat) : Int) = 0 := ht
    have : g = padN l.length := by unfold padN at hg ⊢; omega
    rw [this]; rfl
set_option maxRecDepth 100000 in
theorem ok48 : FnIs Try.prog 48 paddedC := by
  refine fnIs (C := (ctrs c0)) (by kernel_rfl) c0_ok Try.func48 (code := code48) (by kernel_rfl) (by kernel_rfl) ?_
  rintro a ⟨l, rfl, h⟩
  exact ⟨anns [(2, zAnn l)], kcast (vc48 l h) (by kernel_rfl)⟩

noncomputable def code45 : Code := match Try.f45.body with | some c => c | none => .skip
set_option maxHeartbeats 4000000 in
theorem vc45 : ∀ (b : List Int) (n : Int) (k : Nat), sm b.length → (1 : Nat) ≤ k → k ≤ (8 : Nat) → (∃ (l : List Int), [O.d (D.ints IntKind.u8 b)] = [O.d (D.ints IntKind.u8 l)] ∧
  sm l.length) ∧ True ∧ sw (decide ((↑k : Int) < (1 : Int))) (vl (D.ints IntKind.u8 b) = vl (D.ints IntKind.u8 b) ++ be (vi (D.v (Value.int IntKind.u64 n))) (vi (D.v (Value.int IntKind.i64 (↑k : Int)))).toNat ∧
  (!false && true && true) = true) (True ∧ sw (decide ((8 : Int) < (↑k : Int))) (vl (D.ints IntKind.u8 b) = vl (D.ints IntKind.u8 b) ++ be (vi (D.v (Value.int IntKind.u64 n))) (vi (D.v (Value.int IntKind.i64 (↑k : Int)))).toNat ∧
  (!false && true && true) = true) (∃ (g0 : Nat), g0 ≤ k ∧ (0 : Int) = (↑g0 : Int) ∧ vl (D.ints IntKind.u8 b) = b ++ List.take g0 (be n k) ∧ (!false && true && true) = true ∧
  ∀ (g : Nat), g ≤ k → True ∧ sw (decide ((↑g : Int) < (↑k : Int))) (True ∧ True ∧ True ∧ (0 : Int) ≤ IntKind.i64.wrap ((8 : Int) * IntKind.i64.wrap (IntKind.i64.wrap ((↑k : Int) - (1 : Int)) - (↑g : Int))) ∧
  True ∧ ((b ++ List.take g (be n k)).length + (1 : Nat)) * Try.prog.types[(5 : Nat)].bytes ≤ (140737488355328 : Nat) ∧ True ∧ ∃ (g' : Nat), g' ≤ k ∧ k - g' < k - g ∧
  (IntKind.i64.wrap ((↑g : Int) + (1 : Int)) = (↑g' : Int) ∧ b ++ List.take g (be n k) ++ [IntKind.u8.wrap (n.fdiv ((2 : Int) ^ min (IntKind.i64.wrap ((8 : Int) * IntKind.i64.wrap (IntKind.i64.wrap ((↑k : Int) - (1 : Int)) - (↑g : Int)))).toNat IntKind.u64.bits))] = b ++ List.take g' (be n k) ∧
  (!false && true && true && ((Nat.ble (2 : Nat) (4 : Nat) || (Nat.beq (1 : Nat) (4 : Nat) || false)) && true)) = true) ∧ (some (SV.c (Value.int IntKind.i64 (↑k : Int))) = some (SV.c (Value.int IntKind.i64 (↑k : Int))) ∧
  some (SV.c (Value.bool (decide ((8 : Int) < (↑k : Int))))) = some (SV.c (Value.bool (decide ((8 : Int) < (↑k : Int))))) ∧ some (SV.c (Value.bool (decide ((8 : Int) < (↑k : Int))))) = some (SV.c (Value.bool (decide ((8 : Int) < (↑k : Int))))) ∧
  some (SV.c (Value.int IntKind.i64 (↑k : Int))) = some (SV.c (Value.int IntKind.i64 (↑k : Int))) ∧ some (SV.b false) = some (SV.b false) ∧ some (SV.c (Value.bool (decide ((↑k : Int) < (1 : Int))))) = some (SV.c (Value.bool (decide ((↑k : Int) < (1 : Int))))) ∧
  some (SV.c (Value.int IntKind.i64 (↑k : Int))) = some (SV.c (Value.int IntKind.i64 (↑k : Int))) ∧ some (SV.a (1 : Nat)) = some (SV.a (1 : Nat)) ∧ some (SV.a (0 : Nat)) = some (SV.a (0 : Nat)) ∧
  some SV.nil = some SV.nil ∧ some (SV.a (0 : Nat)) = some (SV.a (0 : Nat)) ∧ some (SV.c (Value.int IntKind.u64 n)) = some (SV.c (Value.int IntKind.u64 n)) ∧
  some (SV.c (Value.int IntKind.i64 (↑k : Int))) = some (SV.c (Value.int IntKind.i64 (↑k : Int))) ∧ True) ∧ some (R.ro (D.ints IntKind.u8 b)) = some (R.ro (D.ints IntKind.u8 b)) ∧
  True) (b ++ List.take g (be n k) = vl (D.ints IntKind.u8 b) ++ be (vi (D.v (Value.int IntKind.u64 n))) (vi (D.v (Value.int IntKind.i64 (↑k : Int)))).toNat ∧
  (!false && true && true) = true))) := by
  simp only [↓sw_iff, ↓decide_eq_true_eq, ↓decide_eq_false_iff_not, true_and, and_true, Bool.and_self, Bool.not_false, Bool.or_false, Nat.ble, Nat.beq, Int.toNat_natCast, vi, vl, List.length_append, Nat.mul_one, bytes5]
  intro b n k h h1 h2
  refine ⟨⟨b, rfl, h⟩, fun e => absurd e (by omega), fun _ => ⟨fun e => absurd e (by omega), fun _ => ⟨0, Nat.zero_le _, rfl, by simp, ?_⟩⟩⟩
  unfold sm at h
  intro g hg
  refine ⟨fun ht => ?_, fun ht => ?_⟩
  · have hlt : g < k := by have := ht; omega
    have e : IntKind.i64.wrap (8 * IntKind.i64.wrap (IntKind.i64.wrap ((k : Int) - 1) - (g : Int))) = ((8 * (k - 1 - g) : Nat) : Int) := by
      rw [wrap_i64_id (n := (k : Int) - 1) (by omega) (by omega), wrap_i64_id (n := (k : Int) - 1 - g) (by omega) (by omega), wrap_i64_id (by omega) (by omega)]; omega
    have hl : ((be n k).take g).length ≤ g := List.length_take_le _ _
    rw [e]
    refine ⟨by omega, by omega, g + 1, hlt, by omega, by rw [wrap_i64_id (by omega) (by omega)]; rfl, ?_⟩
    rw [shr_byte _ (by omega), be_step hlt]
  · have : k ≤ g := by have := ht; omega
    rw [List.take_of_length_le (by rw [be_len]; exact this)]
set_option maxRecDepth 100000 in
theorem ok45 : FnIs Try.prog 45 putC := by
  refine fnIs (C := (ctrs c1)) (by kernel_rfl) c1_ok Try.func45 (code := code45) (by kernel_rfl) (by kernel_rfl) ?_
  rintro a ⟨b, n, k, rfl, h, h1, h2⟩
  exact ⟨anns [(5, putAnn b n k)] [2], kcast (vc45 b n k h h1 h2) (by kernel_rfl)⟩

noncomputable def code47 : Code := match Try.f47.body with | some c => c | none => .skip
set_option maxHeartbeats 4000000 in
theorem vc47 : ∀ (b : List Int) (n : Int) (k : Nat), sm b.length → (1 : Nat) ≤ k → k ≤ (8 : Nat) → True ∧ ((0 : Nat) + b.length) * Try.prog.types[(5 : Nat)].bytes ≤ (140737488355328 : Nat) ∧
  True ∧ sw (decide ((↑k : Int) < (1 : Int))) ([] ++ b = vl (D.ints IntKind.u8 b) ++ be (vi (D.v (Value.int IntKind.u64 n))) (vi (D.v (Value.int IntKind.i64 (↑k : Int)))).toNat ∧
  (!false && true && true) = true) (True ∧ sw (decide ((8 : Int) < (↑k : Int))) ([] ++ b = vl (D.ints IntKind.u8 b) ++ be (vi (D.v (Value.int IntKind.u64 n))) (vi (D.v (Value.int IntKind.i64 (↑k : Int)))).toNat ∧
  (!false && true && true) = true) (True ∧ ∃ (g0 : Nat), g0 ≤ k ∧ IntKind.i64.wrap ((↑k : Int) - (1 : Int)) = (↑k : Int) - (1 : Int) - (↑g0 : Int) ∧ [] ++ b = b ++ List.take g0 (be n k) ∧
  (!false && true && true) = true ∧ ∀ (g : Nat), g ≤ k → True ∧ sw (decide ((0 : Int) ≤ (↑k : Int) - (1 : Int) - (↑g : Int))) (True ∧ (0 : Int) ≤ IntKind.u64.wrap (IntKind.i64.wrap ((8 : Int) * ((↑k : Int) - (1 : Int) - (↑g : Int)))) ∧
  True ∧ ((b ++ List.take g (be n k)).length + (1 : Nat)) * Try.prog.types[(5 : Nat)].bytes ≤ (140737488355328 : Nat) ∧ True ∧ ∃ (g' : Nat), g' ≤ k ∧ k - g' < k - g ∧
  (IntKind.i64.wrap ((↑k : Int) - (1 : Int) - (↑g : Int) - (1 : Int)) = (↑k : Int) - (1 : Int) - (↑g' : Int) ∧ b ++ List.take g (be n k) ++ [IntKind.u8.wrap (n.fdiv ((2 : Int) ^ min (IntKind.u64.wrap (IntKind.i64.wrap ((8 : Int) * ((↑k : Int) - (1 : Int) - (↑g : Int))))).toNat IntKind.u64.bits))] = b ++ List.take g' (be n k) ∧
  (!false && true && true && ((Nat.ble (3 : Nat) (5 : Nat) || (Nat.beq (2 : Nat) (5 : Nat) || false)) && true)) = true) ∧ (some (SV.c (Value.int IntKind.i64 (IntKind.i64.wrap ((↑k : Int) - (1 : Int))))) = some (SV.c (Value.int IntKind.i64 (IntKind.i64.wrap ((↑k : Int) - (1 : Int))))) ∧
  some (SV.c (Value.int IntKind.i64 (↑k : Int))) = some (SV.c (Value.int IntKind.i64 (↑k : Int))) ∧ some (SV.c (Value.bool (decide ((8 : Int) < (↑k : Int))))) = some (SV.c (Value.bool (decide ((8 : Int) < (↑k : Int))))) ∧
  some (SV.c (Value.bool (decide ((8 : Int) < (↑k : Int))))) = some (SV.c (Value.bool (decide ((8 : Int) < (↑k : Int))))) ∧ some (SV.c (Value.int IntKind.i64 (↑k : Int))) = some (SV.c (Value.int IntKind.i64 (↑k : Int))) ∧
  some (SV.b false) = some (SV.b false) ∧ some (SV.c (Value.bool (decide ((↑k : Int) < (1 : Int))))) = some (SV.c (Value.bool (decide ((↑k : Int) < (1 : Int))))) ∧
  some (SV.c (Value.int IntKind.i64 (↑k : Int))) = some (SV.c (Value.int IntKind.i64 (↑k : Int))) ∧ some (SV.a (2 : Nat)) = some (SV.a (2 : Nat)) ∧ some (SV.a (0 : Nat)) = some (SV.a (0 : Nat)) ∧
  some (SV.a (1 : Nat)) = some (SV.a (1 : Nat)) ∧ some SV.nil = some SV.nil ∧ some (SV.a (0 : Nat)) = some (SV.a (0 : Nat)) ∧ some (SV.c (Value.int IntKind.u64 n)) = some (SV.c (Value.int IntKind.u64 n)) ∧
  some (SV.c (Value.int IntKind.i64 (↑k : Int))) = some (SV.c (Value.int IntKind.i64 (↑k : Int))) ∧ True) ∧ some R.dead = some R.dead ∧ some (R.ro (D.ints IntKind.u8 b)) = some (R.ro (D.ints IntKind.u8 b)) ∧
  True) (b ++ List.take g (be n k) = vl (D.ints IntKind.u8 b) ++ be (vi (D.v (Value.int IntKind.u64 n))) (vi (D.v (Value.int IntKind.i64 (↑k : Int)))).toNat ∧
  (!false && true && true) = true))) := by
  simp only [↓sw_iff, ↓decide_eq_true_eq, ↓decide_eq_false_iff_not, true_and, and_true, Bool.and_self, Bool.not_false, Bool.or_false, Nat.ble, Nat.beq, Int.toNat_natCast, vi, vl, Nat.zero_add, List.nil_append, List.length_append, Nat.mul_one, bytes5]
  intro b n k h h1 h2
  unfold sm at h
  refine ⟨by omega, fun e => absurd e (by omega), fun _ => ⟨fun e => absurd e (by omega), fun _ => ⟨0, Nat.zero_le _, by rw [wrap_i64_id (by omega) (by omega)]; omega, by simp, ?_⟩⟩⟩
  intro g hg
  refine ⟨fun ht => ?_, fun ht => ?_⟩
  · have hlt : g < k := by have := ht; omega
    have e : IntKind.u64.wrap (IntKind.i64.wrap (8 * ((k : Int) - 1 - (g : Int)))) = ((8 * (k - 1 - g) : Nat) : Int) := by
      rw [wrap_i64_id (by omega) (by omega), IntKind.wrap_u64]; omega
    have hl : ((be n k).take g).length ≤ g := List.length_take_le _ _
    rw [e]
    refine ⟨by omega, by omega, g + 1, hlt, by omega, by rw [wrap_i64_id (by omega) (by omega)]; omega, ?_⟩
    rw [shr_byte _ (by omega), be_step hlt]
  · have : k ≤ g := by have := ht; omega
    rw [List.take_of_length_le (by rw [be_len]; exact this)]
set_option maxRecDepth 100000 in
theorem ok47 : FnIs Try.prog 47 putC := by
  refine fnIs (C := (ctrs c0)) (by kernel_rfl) c0_ok Try.func47 (code := code47) (by kernel_rfl) (by kernel_rfl) ?_
  rintro a ⟨b, n, k, rfl, h, h1, h2⟩
  exact ⟨anns [(5, putAnn' b n k)] [2], kcast (vc47 b n k h h1 h2) (by kernel_rfl)⟩

noncomputable def code57 : Code := match Try.f57.body with | some c => c | none => .skip
set_option maxHeartbeats 4000000 in
theorem vc57 : ∀ (b : List Int) (i n : Int), sm b.length → okI i → okI n → True ∧ sw (decide (i < (0 : Int))) ((partF (vl (D.ints IntKind.u8 b)) (vi (D.v (Value.int IntKind.i64 i))) (vi (D.v (Value.int IntKind.i64 n)))).fst = [] ∧
  (1 : Int) = (partF (vl (D.ints IntKind.u8 b)) (vi (D.v (Value.int IntKind.i64 i))) (vi (D.v (Value.int IntKind.i64 n)))).snd ∧ (true && true) = true) (True ∧
  sw (decide (n < (0 : Int))) ((partF (vl (D.ints IntKind.u8 b)) (vi (D.v (Value.int IntKind.i64 i))) (vi (D.v (Value.int IntKind.i64 n)))).fst = [] ∧ (1 : Int) = (partF (vl (D.ints IntKind.u8 b)) (vi (D.v (Value.int IntKind.i64 i))) (vi (D.v (Value.int IntKind.i64 n)))).snd ∧
  (true && true) = true) (True ∧ sw (decide ((↑b.length : Int) < i)) ((partF (vl (D.ints IntKind.u8 b)) (vi (D.v (Value.int IntKind.i64 i))) (vi (D.v (Value.int IntKind.i64 n)))).fst = [] ∧
  (3 : Int) = (partF (vl (D.ints IntKind.u8 b)) (vi (D.v (Value.int IntKind.i64 i))) (vi (D.v (Value.int IntKind.i64 n)))).snd ∧ (true && true) = true) (True ∧
  True ∧ sw (decide (IntKind.i64.wrap ((↑b.length : Int) - i) < n)) ((partF (vl (D.ints IntKind.u8 b)) (vi (D.v (Value.int IntKind.i64 i))) (vi (D.v (Value.int IntKind.i64 n)))).fst = [] ∧
  (3 : Int) = (partF (vl (D.ints IntKind.u8 b)) (vi (D.v (Value.int IntKind.i64 i))) (vi (D.v (Value.int IntKind.i64 n)))).snd ∧ (true && true) = true) (True ∧
  ((0 : Int) ≤ i ∧ i ≤ IntKind.i64.wrap (i + n) ∧ IntKind.i64.wrap (i + n) ≤ (↑b.length : Int)) ∧ (∃ (l : List Int), [O.d (D.ints IntKind.u8 (List.take ((IntKind.i64.wrap (i + n)).toNat - i.toNat) (List.drop i.toNat b)))] = [O.d (D.ints IntKind.u8 l)] ∧
  sm l.length) ∧ vl (D.ints IntKind.u8 (List.take ((IntKind.i64.wrap (i + n)).toNat - i.toNat) (List.drop i.toNat b))) = (partF (vl (D.ints IntKind.u8 b)) (vi (D.v (Value.int IntKind.i64 i))) (vi (D.v (Value.int IntKind.i64 n)))).fst ∧
  (0 : Int) = (partF (vl (D.ints IntKind.u8 b)) (vi (D.v (Value.int IntKind.i64 i))) (vi (D.v (Value.int IntKind.i64 n)))).snd ∧ (!false && true && true) = true)))) := by
  simp only [↓sw_iff, ↓decide_eq_true_eq, ↓decide_eq_false_iff_not, true_and, and_true, Bool.and_self, Bool.not_false, vi, vl]
  intro b i n h h1 h2
  unfold sm at h
  unfold okI at h1 h2
  have e0 : IntKind.i64.wrap ((b.length : Int) - i) = b.length - i := wrap_i64_id (by omega) (by omega)
  have e1 : IntKind.i64.wrap (i + n) = i + n := wrap_i64_id (by omega) (by omega)
  rw [e0, e1]
  have key : partF b i n = if i < 0 ∨ n < 0 then ([], 1) else if (b.length : Int) < i ∨ (b.length : Int) - i < n then ([], 3) else ((b.drop i.toNat).take n.toNat, 0) := rfl
  refine ⟨fun t => ?_, fun t => ⟨fun t1 => ?_, fun t1 => ⟨fun t2 => ?_, fun t2 => ⟨fun t3 => ?_, fun t3 => ?_⟩⟩⟩⟩
  · rw [key, if_pos (.inl t)]; exact ⟨rfl, rfl⟩
  · rw [key, if_pos (.inr t1)]; exact ⟨rfl, rfl⟩
  · rw [key, if_neg (by have := t; have := t1; omega), if_pos (.inl t2)]; exact ⟨rfl, rfl⟩
  · rw [key, if_neg (by have := t; have := t1; omega), if_pos (.inr t3)]; exact ⟨rfl, rfl⟩
  · have a1 := t; have a2 := t1; have a3 := t2; have a4 := t3
    rw [part_get (by omega) (by omega) (by omega) (by omega), show (i + n).toNat - i.toNat = n.toNat by omega]
    have hl : ((b.drop i.toNat).take n.toNat).length ≤ b.length := by rw [List.length_take, List.length_drop]; omega
    exact ⟨by omega, ⟨_, rfl, by unfold sm; omega⟩, rfl, rfl⟩
set_option maxRecDepth 100000 in
theorem ok57 : FnIs Try.prog 57 partC := by
  refine fnIs (C := (ctrs c1)) (by kernel_rfl) c1_ok Try.func57 (code := code57) (by kernel_rfl) (by kernel_rfl) ?_
  rintro a ⟨b, i, n, rfl, h, h1, h2⟩
  exact ⟨anns [] [1, 3], kcast (vc57 b i n h h1 h2) (by kernel_rfl)⟩

noncomputable def code74 : Code := match Try.f74.body with | some c => c | none => .skip
set_option maxHeartbeats 4000000 in
theorem vc74 : ∀ (b : List Int) (i n : Int), sm b.length → okI i → okI n → True ∧ sw (decide (i < (0 : Int))) ((partF (vl (D.ints IntKind.u8 b)) (vi (D.v (Value.int IntKind.i64 i))) (vi (D.v (Value.int IntKind.i64 n)))).fst = [] ∧
  (1 : Int) = (partF (vl (D.ints IntKind.u8 b)) (vi (D.v (Value.int IntKind.i64 i))) (vi (D.v (Value.int IntKind.i64 n)))).snd ∧ (true && true) = true) (True ∧
  sw (decide (n < (0 : Int))) ((partF (vl (D.ints IntKind.u8 b)) (vi (D.v (Value.int IntKind.i64 i))) (vi (D.v (Value.int IntKind.i64 n)))).fst = [] ∧ (1 : Int) = (partF (vl (D.ints IntKind.u8 b)) (vi (D.v (Value.int IntKind.i64 i))) (vi (D.v (Value.int IntKind.i64 n)))).snd ∧
  (true && true) = true) (True ∧ sw (decide ((↑b.length : Int) < i)) ((partF (vl (D.ints IntKind.u8 b)) (vi (D.v (Value.int IntKind.i64 i))) (vi (D.v (Value.int IntKind.i64 n)))).fst = [] ∧
  (3 : Int) = (partF (vl (D.ints IntKind.u8 b)) (vi (D.v (Value.int IntKind.i64 i))) (vi (D.v (Value.int IntKind.i64 n)))).snd ∧ (true && true) = true) (True ∧
  True ∧ sw (decide (IntKind.i64.wrap ((↑b.length : Int) - i) < n)) ((partF (vl (D.ints IntKind.u8 b)) (vi (D.v (Value.int IntKind.i64 i))) (vi (D.v (Value.int IntKind.i64 n)))).fst = [] ∧
  (3 : Int) = (partF (vl (D.ints IntKind.u8 b)) (vi (D.v (Value.int IntKind.i64 i))) (vi (D.v (Value.int IntKind.i64 n)))).snd ∧ (true && true) = true) (True ∧
  ((0 : Int) ≤ i ∧ i ≤ IntKind.i64.wrap (i + n) ∧ IntKind.i64.wrap (i + n) ≤ (↑b.length : Int)) ∧ True ∧ ((0 : Nat) + (List.take ((IntKind.i64.wrap (i + n)).toNat - i.toNat) (List.drop i.toNat b)).length) * Try.prog.types[(5 : Nat)].bytes ≤ (140737488355328 : Nat) ∧
  [] ++ List.take ((IntKind.i64.wrap (i + n)).toNat - i.toNat) (List.drop i.toNat b) = (partF (vl (D.ints IntKind.u8 b)) (vi (D.v (Value.int IntKind.i64 i))) (vi (D.v (Value.int IntKind.i64 n)))).fst ∧
  (0 : Int) = (partF (vl (D.ints IntKind.u8 b)) (vi (D.v (Value.int IntKind.i64 i))) (vi (D.v (Value.int IntKind.i64 n)))).snd ∧ (!false && true && true) = true)))) := by
  simp only [↓sw_iff, ↓decide_eq_true_eq, ↓decide_eq_false_iff_not, true_and, and_true, Bool.and_self, Bool.not_false, vi, vl, Nat.zero_add, List.nil_append, Nat.mul_one, bytes5]
  intro b i n h h1 h2
  unfold sm at h
  unfold okI at h1 h2
  have e0 : IntKind.i64.wrap ((b.length : Int) - i) = b.length - i := wrap_i64_id (by omega) (by omega)
  have e1 : IntKind.i64.wrap (i + n) = i + n := wrap_i64_id (by omega) (by omega)
  rw [e0, e1]
  have key : partF b i n = if i < 0 ∨ n < 0 then ([], 1) else if (b.length : Int) < i ∨ (b.length : Int) - i < n then ([], 3) else ((b.drop i.toNat).take n.toNat, 0) := rfl
  refine ⟨fun t => ?_, fun t => ⟨fun t1 => ?_, fun t1 => ⟨fun t2 => ?_, fun t2 => ⟨fun t3 => ?_, fun t3 => ?_⟩⟩⟩⟩
  · rw [key, if_pos (.inl t)]; exact ⟨rfl, rfl⟩
  · rw [key, if_pos (.inr t1)]; exact ⟨rfl, rfl⟩
  · rw [key, if_neg (by have := t; have := t1; omega), if_pos (.inl t2)]; exact ⟨rfl, rfl⟩
  · rw [key, if_neg (by have := t; have := t1; omega), if_pos (.inr t3)]; exact ⟨rfl, rfl⟩
  · have a1 := t; have a2 := t1; have a3 := t2; have a4 := t3
    rw [part_get (by omega) (by omega) (by omega) (by omega), show (i + n).toNat - i.toNat = n.toNat by omega]
    have hl : ((b.drop i.toNat).take n.toNat).length ≤ b.length := by rw [List.length_take, List.length_drop]; omega
    exact ⟨by omega, by omega, rfl, rfl⟩
set_option maxRecDepth 100000 in
theorem ok74 : FnIs Try.prog 74 partC := by
  refine fnIs (C := (ctrs c0)) (by kernel_rfl) c0_ok Try.func74 (code := code74) (by kernel_rfl) (by kernel_rfl) ?_
  rintro a ⟨b, i, n, rfl, h, h1, h2⟩
  exact ⟨anns [] [1, 3], kcast (vc74 b i n h h1 h2) (by kernel_rfl)⟩

theorem c2_ok : COk Try.prog (ctrs c2) := cok_cons ok57 (cok_cons ok74 cok_nil)

noncomputable def code65 : Code := match Try.f65.body with | some c => c | none => .skip
set_option maxHeartbeats 4000000 in
theorem vc65 : ∀ (b : List Int) (i : Int) (k : Nat), sm b.length → okB b → okI i → (1 : Nat) ≤ k → k ≤ (8 : Nat) → True ∧ sw (decide ((↑k : Int) < (1 : Int))) ((0 : Int) = (valF (partF (vl (D.ints IntKind.u8 b)) (vi (D.v (Value.int IntKind.i64 i))) (↑(vi (D.v (Value.int IntKind.i64 (↑k : Int)))).toNat : Int)).fst, (partF (vl (D.ints IntKind.u8 b)) (vi (D.v (Value.int IntKind.i64 i))) (↑(vi (D.v (Value.int IntKind.i64 (↑k : Int)))).toNat : Int)).snd).fst ∧
  (1 : Int) = (valF (partF (vl (D.ints IntKind.u8 b)) (vi (D.v (Value.int IntKind.i64 i))) (↑(vi (D.v (Value.int IntKind.i64 (↑k : Int)))).toNat : Int)).fst, (partF (vl (D.ints IntKind.u8 b)) (vi (D.v (Value.int IntKind.i64 i))) (↑(vi (D.v (Value.int IntKind.i64 (↑k : Int)))).toNat : Int)).snd).snd ∧
  (true && true) = true) (True ∧ sw (decide ((8 : Int) < (↑k : Int))) ((0 : Int) = (valF (partF (vl (D.ints IntKind.u8 b)) (vi (D.v (Value.int IntKind.i64 i))) (↑(vi (D.v (Value.int IntKind.i64 (↑k : Int)))).toNat : Int)).fst, (partF (vl (D.ints IntKind.u8 b)) (vi (D.v (Value.int IntKind.i64 i))) (↑(vi (D.v (Value.int IntKind.i64 (↑k : Int)))).toNat : Int)).snd).fst ∧
  (1 : Int) = (valF (partF (vl (D.ints IntKind.u8 b)) (vi (D.v (Value.int IntKind.i64 i))) (↑(vi (D.v (Value.int IntKind.i64 (↑k : Int)))).toNat : Int)).fst, (partF (vl (D.ints IntKind.u8 b)) (vi (D.v (Value.int IntKind.i64 i))) (↑(vi (D.v (Value.int IntKind.i64 (↑k : Int)))).toNat : Int)).snd).snd ∧
  (true && true) = true) ((∃ (b_1 : List Int), ∃ (i_1 : Int), ∃ (n : Int), [O.d (D.ints IntKind.u8 b), O.d (D.v (Value.int IntKind.i64 i)), O.d (D.v (Value.int IntKind.i64 (↑k : Int)))] = [O.d (D.ints IntKind.u8 b_1), O.d (D.v (Value.int IntKind.i64 i_1)), O.d (D.v (Value.int IntKind.i64 n))] ∧
  sm b_1.length ∧ okI i_1 ∧ okI n) ∧ ∃ (g0 : Nat), g0 ≤ (partF b i (↑k : Int)).fst.length ∧ (0 : Int) = (↑g0 : Int) ∧ (0 : Int) = valF (List.take g0 (partF b i (↑k : Int)).fst) ∧
  (true && true) = true ∧ ∀ (g : Nat), g ≤ (partF b i (↑k : Int)).fst.length → True ∧ sw (decide ((↑g : Int) < (↑(partF (vl (D.ints IntKind.u8 b)) (vi (D.v (Value.int IntKind.i64 i))) (vi (D.v (Value.int IntKind.i64 (↑k : Int))))).fst.length : Int))) (((0 : Int) ≤ (↑g : Int) ∧
  (↑g : Int) < (↑(partF (vl (D.ints IntKind.u8 b)) (vi (D.v (Value.int IntKind.i64 i))) (vi (D.v (Value.int IntKind.i64 (↑k : Int))))).fst.length : Int)) ∧
  (0 : Int) ≤ (8 : Int) ∧ True ∧ True ∧ ∃ (g' : Nat), g' ≤ (partF b i (↑k : Int)).fst.length ∧ (partF b i (↑k : Int)).fst.length - g' < (partF b i (↑k : Int)).fst.length - g ∧
  (IntKind.i64.wrap ((↑g : Int) + (1 : Int)) = (↑g' : Int) ∧ bits BinOp.or IntKind.u64 (IntKind.u64.wrap (valF (List.take g (partF b i (↑k : Int)).fst) * (2 : Int) ^ min (Int.toNat (8 : Int)) IntKind.u64.bits)) (IntKind.u64.wrap ((partF (vl (D.ints IntKind.u8 b)) (vi (D.v (Value.int IntKind.i64 i))) (vi (D.v (Value.int IntKind.i64 (↑k : Int))))).fst.getD (↑g : Int).toNat (0 : Int))) = valF (List.take g' (partF b i (↑k : Int)).fst) ∧
  (true && true && true) = true) ∧ (some (SV.c (Value.int IntKind.i64 (↑(partF (vl (D.ints IntKind.u8 b)) (vi (D.v (Value.int IntKind.i64 i))) (vi (D.v (Value.int IntKind.i64 (↑k : Int))))).fst.length : Int))) = some (SV.c (Value.int IntKind.i64 (↑(partF (vl (D.ints IntKind.u8 b)) (vi (D.v (Value.int IntKind.i64 i))) (vi (D.v (Value.int IntKind.i64 (↑k : Int))))).fst.length : Int))) ∧
  some (SV.a (1 : Nat)) = some (SV.a (1 : Nat)) ∧ some (SV.c (Value.int IntKind.i64 (partF (vl (D.ints IntKind.u8 b)) (vi (D.v (Value.int IntKind.i64 i))) (vi (D.v (Value.int IntKind.i64 (↑k : Int))))).snd)) = some (SV.c (Value.int IntKind.i64 (partF (vl (D.ints IntKind.u8 b)) (vi (D.v (Value.int IntKind.i64 i))) (vi (D.v (Value.int IntKind.i64 (↑k : Int))))).snd)) ∧
  some (SV.a (1 : Nat)) = some (SV.a (1 : Nat)) ∧ some (SV.c (Value.int IntKind.i64 (partF (vl (D.ints IntKind.u8 b)) (vi (D.v (Value.int IntKind.i64 i))) (vi (D.v (Value.int IntKind.i64 (↑k : Int))))).snd)) = some (SV.c (Value.int IntKind.i64 (partF (vl (D.ints IntKind.u8 b)) (vi (D.v (Value.int IntKind.i64 i))) (vi (D.v (Value.int IntKind.i64 (↑k : Int))))).snd)) ∧
  some (SV.a (1 : Nat)) = some (SV.a (1 : Nat)) ∧ some (SV.tup [SV.a (1 : Nat), SV.c (Value.int IntKind.i64 (partF (vl (D.ints IntKind.u8 b)) (vi (D.v (Value.int IntKind.i64 i))) (vi (D.v (Value.int IntKind.i64 (↑k : Int))))).snd)]) = some (SV.tup [SV.a (1 : Nat), SV.c (Value.int IntKind.i64 (partF (vl (D.ints IntKind.u8 b)) (vi (D.v (Value.int IntKind.i64 i))) (vi (D.v (Value.int IntKind.i64 (↑k : Int))))).snd)]) ∧
  some (SV.tup [SV.a (1 : Nat), SV.c (Value.int IntKind.i64 (partF (vl (D.ints IntKind.u8 b)) (vi (D.v (Value.int IntKind.i64 i))) (vi (D.v (Value.int IntKind.i64 (↑k : Int))))).snd)]) = some (SV.tup [SV.a (1 : Nat), SV.c (Value.int IntKind.i64 (partF (vl (D.ints IntKind.u8 b)) (vi (D.v (Value.int IntKind.i64 i))) (vi (D.v (Value.int IntKind.i64 (↑k : Int))))).snd)]) ∧
  some (SV.c (Value.int IntKind.i64 (↑k : Int))) = some (SV.c (Value.int IntKind.i64 (↑k : Int))) ∧ some (SV.c (Value.int IntKind.i64 i)) = some (SV.c (Value.int IntKind.i64 i)) ∧
  some (SV.a (0 : Nat)) = some (SV.a (0 : Nat)) ∧ some (SV.c (Value.bool (decide ((8 : Int) < (↑k : Int))))) = some (SV.c (Value.bool (decide ((8 : Int) < (↑k : Int))))) ∧
  some (SV.c (Value.bool (decide ((8 : Int) < (↑k : Int))))) = some (SV.c (Value.bool (decide ((8 : Int) < (↑k : Int))))) ∧ some (SV.c (Value.int IntKind.i64 (↑k : Int))) = some (SV.c (Value.int IntKind.i64 (↑k : Int))) ∧
  some (SV.b false) = some (SV.b false) ∧ some (SV.c (Value.bool (decide ((↑k : Int) < (1 : Int))))) = some (SV.c (Value.bool (decide ((↑k : Int) < (1 : Int))))) ∧
  some (SV.c (Value.int IntKind.i64 (↑k : Int))) = some (SV.c (Value.int IntKind.i64 (↑k : Int))) ∧ some (SV.a (0 : Nat)) = some (SV.a (0 : Nat)) ∧ some (SV.c (Value.int IntKind.i64 i)) = some (SV.c (Value.int IntKind.i64 i)) ∧
  some (SV.c (Value.int IntKind.i64 (↑k : Int))) = some (SV.c (Value.int IntKind.i64 (↑k : Int))) ∧ True) ∧ some (R.own (5 : Nat) (D.ints IntKind.u8 (partF (vl (D.ints IntKind.u8 b)) (vi (D.v (Value.int IntKind.i64 i))) (vi (D.v (Value.int IntKind.i64 (↑k : Int))))).fst)) = some (R.own (5 : Nat) (D.ints IntKind.u8 (partF (vl (D.ints IntKind.u8 b)) (vi (D.v (Value.int IntKind.i64 i))) (vi (D.v (Value.int IntKind.i64 (↑k : Int))))).fst)) ∧
  some (R.ro (D.ints IntKind.u8 b)) = some (R.ro (D.ints IntKind.u8 b)) ∧ True) (valF (List.take g (partF b i (↑k : Int)).fst) = (valF (partF (vl (D.ints IntKind.u8 b)) (vi (D.v (Value.int IntKind.i64 i))) (↑(vi (D.v (Value.int IntKind.i64 (↑k : Int)))).toNat : Int)).fst, (partF (vl (D.ints IntKind.u8 b)) (vi (D.v (Value.int IntKind.i64 i))) (↑(vi (D.v (Value.int IntKind.i64 (↑k : Int)))).toNat : Int)).snd).fst ∧
  (partF (vl (D.ints IntKind.u8 b)) (vi (D.v (Value.int IntKind.i64 i))) (vi (D.v (Value.int IntKind.i64 (↑k : Int))))).snd = (valF (partF (vl (D.ints IntKind.u8 b)) (vi (D.v (Value.int IntKind.i64 i))) (↑(vi (D.v (Value.int IntKind.i64 (↑k : Int)))).toNat : Int)).fst, (partF (vl (D.ints IntKind.u8 b)) (vi (D.v (Value.int IntKind.i64 i))) (↑(vi (D.v (Value.int IntKind.i64 (↑k : Int)))).toNat : Int)).snd).snd ∧
  (true && true) = true))) := by
  simp only [↓sw_iff, ↓decide_eq_true_eq, ↓decide_eq_false_iff_not, true_and, and_true, Bool.and_self, Int.toNat_natCast, vi, vl]
  intro b i k h hb h1 h2 h3
  have hp := part_ok hb i (k : Int)
  have hl := part_len (b := b) (i := i) (k := k)
  refine ⟨fun t => absurd t (by omega), fun _ => ⟨fun t => absurd t (by omega), fun _ => ⟨⟨b, i, k, rfl, h, h1, by unfold okI; omega⟩, 0, Nat.zero_le _, rfl, rfl, ?_⟩⟩⟩
  intro g hg
  refine ⟨fun t => ?_, fun t => ?_⟩
  · have hlt : g < (partF b i (k : Int)).1.length := by have := t; omega
    have hx := okB_getD hp g
    have hv := val_small (okB_take hp g) (by rw [List.length_take]; omega)
    refine ⟨⟨by omega, by omega⟩, by omega, g + 1, hlt, by omega, by rw [wrap_i64_id (by omega) (by omega)]; rfl, ?_⟩
    rw [or_byte hv.1 hv.2 hx.1 hx.2, take_succ_getD hlt, val_snoc]
  · rw [List.take_of_length_le (by have := t; omega)]
set_option maxRecDepth 100000 in
theorem ok65 : FnIs Try.prog 65 (getC 8) := by
  refine fnIs (C := (ctrs c2)) (by kernel_rfl) c2_ok Try.func65 (code := code65) (by kernel_rfl) (by kernel_rfl) ?_
  rintro a ⟨b, i, k, rfl, h, hb, h1, h2, h3⟩
  exact ⟨anns [(5, valAnn 26 6 (partF b i k).1)] [1], kcast (vc65 b i k h hb h1 h2 h3) (by kernel_rfl)⟩

noncomputable def code66 : Code := match Try.f66.body with | some c => c | none => .skip
set_option maxHeartbeats 4000000 in
theorem vc66 : ∀ (b : List Int) (i : Int) (k : Nat), sm b.length → okB b → okI i → (1 : Nat) ≤ k → k ≤ (8 : Nat) → True ∧ sw (decide ((↑k : Int) < (1 : Int))) ((0 : Int) = (valF (partF (vl (D.ints IntKind.u8 b)) (vi (D.v (Value.int IntKind.i64 i))) (↑(vi (D.v (Value.int IntKind.i64 (↑k : Int)))).toNat : Int)).fst, (partF (vl (D.ints IntKind.u8 b)) (vi (D.v (Value.int IntKind.i64 i))) (↑(vi (D.v (Value.int IntKind.i64 (↑k : Int)))).toNat : Int)).snd).fst ∧
  (1 : Int) = (valF (partF (vl (D.ints IntKind.u8 b)) (vi (D.v (Value.int IntKind.i64 i))) (↑(vi (D.v (Value.int IntKind.i64 (↑k : Int)))).toNat : Int)).fst, (partF (vl (D.ints IntKind.u8 b)) (vi (D.v (Value.int IntKind.i64 i))) (↑(vi (D.v (Value.int IntKind.i64 (↑k : Int)))).toNat : Int)).snd).snd ∧
  (true && true) = true) (True ∧ sw (decide ((8 : Int) < (↑k : Int))) ((0 : Int) = (valF (partF (vl (D.ints IntKind.u8 b)) (vi (D.v (Value.int IntKind.i64 i))) (↑(vi (D.v (Value.int IntKind.i64 (↑k : Int)))).toNat : Int)).fst, (partF (vl (D.ints IntKind.u8 b)) (vi (D.v (Value.int IntKind.i64 i))) (↑(vi (D.v (Value.int IntKind.i64 (↑k : Int)))).toNat : Int)).snd).fst ∧
  (1 : Int) = (valF (partF (vl (D.ints IntKind.u8 b)) (vi (D.v (Value.int IntKind.i64 i))) (↑(vi (D.v (Value.int IntKind.i64 (↑k : Int)))).toNat : Int)).fst, (partF (vl (D.ints IntKind.u8 b)) (vi (D.v (Value.int IntKind.i64 i))) (↑(vi (D.v (Value.int IntKind.i64 (↑k : Int)))).toNat : Int)).snd).snd ∧
  (true && true) = true) (True ∧ sw (decide (i < (0 : Int))) ((0 : Int) = (valF (partF (vl (D.ints IntKind.u8 b)) (vi (D.v (Value.int IntKind.i64 i))) (↑(vi (D.v (Value.int IntKind.i64 (↑k : Int)))).toNat : Int)).fst, (partF (vl (D.ints IntKind.u8 b)) (vi (D.v (Value.int IntKind.i64 i))) (↑(vi (D.v (Value.int IntKind.i64 (↑k : Int)))).toNat : Int)).snd).fst ∧
  (1 : Int) = (valF (partF (vl (D.ints IntKind.u8 b)) (vi (D.v (Value.int IntKind.i64 i))) (↑(vi (D.v (Value.int IntKind.i64 (↑k : Int)))).toNat : Int)).fst, (partF (vl (D.ints IntKind.u8 b)) (vi (D.v (Value.int IntKind.i64 i))) (↑(vi (D.v (Value.int IntKind.i64 (↑k : Int)))).toNat : Int)).snd).snd ∧
  (true && true) = true) ((∃ (b_1 : List Int), ∃ (i_1 : Int), ∃ (n : Int), [O.d (D.ints IntKind.u8 b), O.d (D.v (Value.int IntKind.i64 i)), O.d (D.v (Value.int IntKind.i64 (↑k : Int)))] = [O.d (D.ints IntKind.u8 b_1), O.d (D.v (Value.int IntKind.i64 i_1)), O.d (D.v (Value.int IntKind.i64 n))] ∧
  sm b_1.length ∧ okI i_1 ∧ okI n) ∧ True ∧ sw (!decide ((partF (vl (D.ints IntKind.u8 b)) (vi (D.v (Value.int IntKind.i64 i))) (vi (D.v (Value.int IntKind.i64 (↑k : Int))))).snd = (0 : Int))) ((0 : Int) = (valF (partF (vl (D.ints IntKind.u8 b)) (vi (D.v (Value.int IntKind.i64 i))) (↑(vi (D.v (Value.int IntKind.i64 (↑k : Int)))).toNat : Int)).fst, (partF (vl (D.ints IntKind.u8 b)) (vi (D.v (Value.int IntKind.i64 i))) (↑(vi (D.v (Value.int IntKind.i64 (↑k : Int)))).toNat : Int)).snd).fst ∧
  (partF (vl (D.ints IntKind.u8 b)) (vi (D.v (Value.int IntKind.i64 i))) (vi (D.v (Value.int IntKind.i64 (↑k : Int))))).snd = (valF (partF (vl (D.ints IntKind.u8 b)) (vi (D.v (Value.int IntKind.i64 i))) (↑(vi (D.v (Value.int IntKind.i64 (↑k : Int)))).toNat : Int)).fst, (partF (vl (D.ints IntKind.u8 b)) (vi (D.v (Value.int IntKind.i64 i))) (↑(vi (D.v (Value.int IntKind.i64 (↑k : Int)))).toNat : Int)).snd).snd ∧
  (true && true) = true) (∃ (g0 : Nat), g0 ≤ (partF b i (↑k : Int)).fst.length ∧ (0 : Int) = (↑g0 : Int) ∧ (0 : Int) = valF (List.take g0 (partF b i (↑k : Int)).fst) ∧
  (true && true) = true ∧ ∀ (g : Nat), g ≤ (partF b i (↑k : Int)).fst.length → True ∧ sw (decide ((↑g : Int) < (↑(partF (vl (D.ints IntKind.u8 b)) (vi (D.v (Value.int IntKind.i64 i))) (vi (D.v (Value.int IntKind.i64 (↑k : Int))))).fst.length : Int))) (True ∧
  ((0 : Int) ≤ (↑g : Int) ∧ (↑g : Int) < (↑(partF (vl (D.ints IntKind.u8 b)) (vi (D.v (Value.int IntKind.i64 i))) (vi (D.v (Value.int IntKind.i64 (↑k : Int))))).fst.length : Int)) ∧
  True ∧ True ∧ ∃ (g' : Nat), g' ≤ (partF b i (↑k : Int)).fst.length ∧ (partF b i (↑k : Int)).fst.length - g' < (partF b i (↑k : Int)).fst.length - g ∧ (IntKind.i64.wrap ((↑g : Int) + (1 : Int)) = (↑g' : Int) ∧
  IntKind.u64.wrap (IntKind.u64.wrap (valF (List.take g (partF b i (↑k : Int)).fst) * (256 : Int)) + IntKind.u64.wrap ((partF (vl (D.ints IntKind.u8 b)) (vi (D.v (Value.int IntKind.i64 i))) (vi (D.v (Value.int IntKind.i64 (↑k : Int))))).fst.getD (↑g : Int).toNat (0 : Int))) = valF (List.take g' (partF b i (↑k : Int)).fst) ∧
  (true && true && true) = true) ∧ (some (SV.c (Value.bool !decide ((partF (vl (D.ints IntKind.u8 b)) (vi (D.v (Value.int IntKind.i64 i))) (vi (D.v (Value.int IntKind.i64 (↑k : Int))))).snd = (0 : Int)))) = some (SV.c (Value.bool !decide ((partF (vl (D.ints IntKind.u8 b)) (vi (D.v (Value.int IntKind.i64 i))) (vi (D.v (Value.int IntKind.i64 (↑k : Int))))).snd = (0 : Int)))) ∧
  some (SV.c (Value.int IntKind.i64 (partF (vl (D.ints IntKind.u8 b)) (vi (D.v (Value.int IntKind.i64 i))) (vi (D.v (Value.int IntKind.i64 (↑k : Int))))).snd)) = some (SV.c (Value.int IntKind.i64 (partF (vl (D.ints IntKind.u8 b)) (vi (D.v (Value.int IntKind.i64 i))) (vi (D.v (Value.int IntKind.i64 (↑k : Int))))).snd)) ∧
  some (SV.c (Value.int IntKind.i64 (partF (vl (D.ints IntKind.u8 b)) (vi (D.v (Value.int IntKind.i64 i))) (vi (D.v (Value.int IntKind.i64 (↑k : Int))))).snd)) = some (SV.c (Value.int IntKind.i64 (partF (vl (D.ints IntKind.u8 b)) (vi (D.v (Value.int IntKind.i64 i))) (vi (D.v (Value.int IntKind.i64 (↑k : Int))))).snd)) ∧
  some (SV.a (1 : Nat)) = some (SV.a (1 : Nat)) ∧ some (SV.c (Value.int IntKind.i64 (partF (vl (D.ints IntKind.u8 b)) (vi (D.v (Value.int IntKind.i64 i))) (vi (D.v (Value.int IntKind.i64 (↑k : Int))))).snd)) = some (SV.c (Value.int IntKind.i64 (partF (vl (D.ints IntKind.u8 b)) (vi (D.v (Value.int IntKind.i64 i))) (vi (D.v (Value.int IntKind.i64 (↑k : Int))))).snd)) ∧
  some (SV.a (1 : Nat)) = some (SV.a (1 : Nat)) ∧ some (SV.tup [SV.a (1 : Nat), SV.c (Value.int IntKind.i64 (partF (vl (D.ints IntKind.u8 b)) (vi (D.v (Value.int IntKind.i64 i))) (vi (D.v (Value.int IntKind.i64 (↑k : Int))))).snd)]) = some (SV.tup [SV.a (1 : Nat), SV.c (Value.int IntKind.i64 (partF (vl (D.ints IntKind.u8 b)) (vi (D.v (Value.int IntKind.i64 i))) (vi (D.v (Value.int IntKind.i64 (↑k : Int))))).snd)]) ∧
  some (SV.tup [SV.a (1 : Nat), SV.c (Value.int IntKind.i64 (partF (vl (D.ints IntKind.u8 b)) (vi (D.v (Value.int IntKind.i64 i))) (vi (D.v (Value.int IntKind.i64 (↑k : Int))))).snd)]) = some (SV.tup [SV.a (1 : Nat), SV.c (Value.int IntKind.i64 (partF (vl (D.ints IntKind.u8 b)) (vi (D.v (Value.int IntKind.i64 i))) (vi (D.v (Value.int IntKind.i64 (↑k : Int))))).snd)]) ∧
  some (SV.c (Value.int IntKind.i64 (↑k : Int))) = some (SV.c (Value.int IntKind.i64 (↑k : Int))) ∧ some (SV.c (Value.int IntKind.i64 i)) = some (SV.c (Value.int IntKind.i64 i)) ∧
  some (SV.a (0 : Nat)) = some (SV.a (0 : Nat)) ∧ some (SV.c (Value.bool (decide (i < (0 : Int))))) = some (SV.c (Value.bool (decide (i < (0 : Int))))) ∧
  some (SV.c (Value.bool (decide (i < (0 : Int))))) = some (SV.c (Value.bool (decide (i < (0 : Int))))) ∧ some (SV.c (Value.int IntKind.i64 i)) = some (SV.c (Value.int IntKind.i64 i)) ∧
  some (SV.b false) = some (SV.b false) ∧ some (SV.c (Value.bool (decide ((8 : Int) < (↑k : Int))))) = some (SV.c (Value.bool (decide ((8 : Int) < (↑k : Int))))) ∧
  some (SV.c (Value.bool (decide ((8 : Int) < (↑k : Int))))) = some (SV.c (Value.bool (decide ((8 : Int) < (↑k : Int))))) ∧ some (SV.c (Value.int IntKind.i64 (↑k : Int))) = some (SV.c (Value.int IntKind.i64 (↑k : Int))) ∧
  some (SV.b false) = some (SV.b false) ∧ some (SV.c (Value.bool (decide ((↑k : Int) < (1 : Int))))) = some (SV.c (Value.bool (decide ((↑k : Int) < (1 : Int))))) ∧
  some (SV.c (Value.int IntKind.i64 (↑k : Int))) = some (SV.c (Value.int IntKind.i64 (↑k : Int))) ∧ some (SV.c (Value.int IntKind.i64 (0 : Int))) = some (SV.c (Value.int IntKind.i64 (0 : Int))) ∧
  some (SV.c (Value.int IntKind.u64 (0 : Int))) = some (SV.c (Value.int IntKind.u64 (0 : Int))) ∧ some (SV.a (0 : Nat)) = some (SV.a (0 : Nat)) ∧ some (SV.c (Value.int IntKind.i64 i)) = some (SV.c (Value.int IntKind.i64 i)) ∧
  some (SV.c (Value.int IntKind.i64 (↑k : Int))) = some (SV.c (Value.int IntKind.i64 (↑k : Int))) ∧ True) ∧ some (R.own (5 : Nat) (D.ints IntKind.u8 (partF (vl (D.ints IntKind.u8 b)) (vi (D.v (Value.int IntKind.i64 i))) (vi (D.v (Value.int IntKind.i64 (↑k : Int))))).fst)) = some (R.own (5 : Nat) (D.ints IntKind.u8 (partF (vl (D.ints IntKind.u8 b)) (vi (D.v (Value.int IntKind.i64 i))) (vi (D.v (Value.int IntKind.i64 (↑k : Int))))).fst)) ∧
  some (R.ro (D.ints IntKind.u8 b)) = some (R.ro (D.ints IntKind.u8 b)) ∧ True) (valF (List.take g (partF b i (↑k : Int)).fst) = (valF (partF (vl (D.ints IntKind.u8 b)) (vi (D.v (Value.int IntKind.i64 i))) (↑(vi (D.v (Value.int IntKind.i64 (↑k : Int)))).toNat : Int)).fst, (partF (vl (D.ints IntKind.u8 b)) (vi (D.v (Value.int IntKind.i64 i))) (↑(vi (D.v (Value.int IntKind.i64 (↑k : Int)))).toNat : Int)).snd).fst ∧
  (0 : Int) = (valF (partF (vl (D.ints IntKind.u8 b)) (vi (D.v (Value.int IntKind.i64 i))) (↑(vi (D.v (Value.int IntKind.i64 (↑k : Int)))).toNat : Int)).fst, (partF (vl (D.ints IntKind.u8 b)) (vi (D.v (Value.int IntKind.i64 i))) (↑(vi (D.v (Value.int IntKind.i64 (↑k : Int)))).toNat : Int)).snd).snd ∧
  (true && true) = true))))) := by
  simp only [↓sw_iff, ↓decide_eq_true_eq, ↓decide_eq_false_iff_not, ↓Bool.not_eq_true', ↓Bool.not_eq_false', true_and, and_true, Bool.and_self, Int.toNat_natCast, vi, vl]
  intro b i k h hb h1 h2 h3
  have hp := part_ok hb i (k : Int)
  have hl := part_len (b := b) (i := i) (k := k)
  have he := part_err b i (k : Int)
  refine ⟨fun t => absurd t (by omega), fun _ => ⟨fun t => absurd t (by omega), fun _ => ⟨fun t => ?_, fun _ => ⟨⟨b, i, k, rfl, h, h1, by unfold okI; omega⟩, fun t => ?_, fun t => ⟨0, Nat.zero_le _, rfl, rfl, ?_⟩⟩⟩⟩⟩
  · have key : partF b i (k : Int) = ([], 1) := by unfold partF; rw [if_pos (.inl t)]
    rw [key]; exact ⟨rfl, rfl⟩
  · rw [he t]; rfl
  have he0 : (partF b i (k : Int)).2 = 0 := t
  intro g hg
  refine ⟨fun t => ?_, fun t => ?_⟩
  · have hlt : g < (partF b i (k : Int)).1.length := by have := t; omega
    have hx := okB_getD hp g
    have hv := val_small (okB_take hp g) (by rw [List.length_take]; omega)
    have hv2 : valF ((partF b i (k : Int)).1.take g) < 72057594037927936 := hv.2
    refine ⟨⟨by omega, by omega⟩, g + 1, hlt, by omega, by rw [wrap_i64_id (by omega) (by omega)]; rfl, ?_⟩
    rw [take_succ_getD hlt, val_snoc, IntKind.wrap_u64, IntKind.wrap_u64, IntKind.wrap_u64]
    omega
  · rw [List.take_of_length_le (by have := t; omega)]
    exact ⟨rfl, he0.symm⟩
set_option maxRecDepth 100000 in
theorem ok66 : FnIs Try.prog 66 (getC 8) := by
  refine fnIs (C := (ctrs c2)) (by kernel_rfl) c2_ok Try.func66 (code := code66) (by kernel_rfl) (by kernel_rfl) ?_
  rintro a ⟨b, i, k, rfl, h, hb, h1, h2, h3⟩
  exact ⟨anns [(8, valAnn 11 10 (partF b i k).1)] [1], kcast (vc66 b i k h hb h1 h2 h3) (by kernel_rfl)⟩

theorem c3_ok : COk Try.prog (ctrs c3) := cok_cons ok66 cok_nil

noncomputable def code50 : Code := match Try.f50.body with | some c => c | none => .skip
set_option maxHeartbeats 4000000 in
theorem vc50 : ∀ (b : List Int) (i : Int) (k : Nat), sm b.length → okB b → okI i → (1 : Nat) ≤ k → k ≤ (7 : Nat) → (∃ (b_1 : List Int), ∃ (i_1 : Int), ∃ (k_1 : Nat), [O.d (D.ints IntKind.u8 b), O.d (D.v (Value.int IntKind.i64 i)), O.d (D.v (Value.int IntKind.i64 (↑k : Int)))] = [O.d (D.ints IntKind.u8 b_1), O.d (D.v (Value.int IntKind.i64 i_1)), O.d (D.v (Value.int IntKind.i64 (↑k_1 : Int)))] ∧
  sm b_1.length ∧ okB b_1 ∧ okI i_1 ∧ (1 : Nat) ≤ k_1 ∧ k_1 ≤ (8 : Nat)) ∧ IntKind.i64.wrap (valF (partF (vl (D.ints IntKind.u8 b)) (vi (D.v (Value.int IntKind.i64 i))) (↑(vi (D.v (Value.int IntKind.i64 (↑k : Int)))).toNat : Int)).fst, (partF (vl (D.ints IntKind.u8 b)) (vi (D.v (Value.int IntKind.i64 i))) (↑(vi (D.v (Value.int IntKind.i64 (↑k : Int)))).toNat : Int)).snd).fst = (valF (partF (vl (D.ints IntKind.u8 b)) (vi (D.v (Value.int IntKind.i64 i))) (↑(vi (D.v (Value.int IntKind.i64 (↑k : Int)))).toNat : Int)).fst, (partF (vl (D.ints IntKind.u8 b)) (vi (D.v (Value.int IntKind.i64 i))) (↑(vi (D.v (Value.int IntKind.i64 (↑k : Int)))).toNat : Int)).snd).fst ∧
  (true && true) = true := by
  simp only [and_true, Bool.and_self, Int.toNat_natCast, vi, vl]
  intro b i k h hb h1 h2 h3
  refine ⟨⟨b, i, k, rfl, h, hb, h1, h2, by omega⟩, ?_⟩
  have hs := val_small (part_ok hb i (k : Int)) (Nat.le_trans part_len h3)
  have h7 : (256 : Int) ^ 7 = 72057594037927936 := rfl
  rw [wrap_i64_id (by omega) (by omega)]
set_option maxRecDepth 100000 in
theorem ok50 : FnIs Try.prog 50 numC := by
  refine fnIs (C := (ctrs c3)) (by kernel_rfl) c3_ok Try.func50 (code := code50) (by kernel_rfl) (by kernel_rfl) ?_
  rintro a ⟨b, i, k, rfl, h, hb, h1, h2, h3⟩
  exact ⟨anns [], kcast (vc50 b i k h hb h1 h2 h3) (by kernel_rfl)⟩

end Go.ZR
