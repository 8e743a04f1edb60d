/- Part 17 of what the closing text rests on. -/
import Derived.Test.YtdamnoleoakehaaGreatDoorH16
import Derived.Test.YtdamnoleoakehaaGreatDoorRows
namespace Go.ZR
open Go.Proofs
open Go.Z Go.ZM Go.RowKit
set_option maxRecDepth 100000
theorem bytes5 : Tryz.prog.types[(5 : Nat)].bytes = 1 := by kernel_rfl
theorem be_step {b : List Int} {n : Int} {g k : Nat} (hg : g < k) : b ++ (be n k).take g ++ [(n / 256 ^ (k - 1 - g)) % 256] = b ++ (be n k).take (g + 1) := by
  rw [take_succ_getD (by rw [be_len]; exact hg), be_get n hg, List.append_assoc]
noncomputable def code68 : Code := match Tryz.f68.body with | some c => c | none => .skip
set_option maxHeartbeats 4000000 in
theorem vc68 : ∀ (l : List Int), sm l.length → ∀ (t : Bool), (t = true → l.length = (0 : Nat)) → sw t (l = [] ∧ (true && true) = true) (True ∧ ((0 : Nat) + l.length) * Tryz.prog.types[(5 : Nat)].bytes ≤ (140737488355328 : Nat) ∧
  [] ++ l = l ∧ (!false && true && true) = true) := by
  simp only [↓sw_iff, ↓Bool.and_eq_true, ↓Bool.not_eq_true', true_and, and_true, Nat.zero_add, List.nil_append, Nat.mul_one, bytes5]
  intro l h t ht
  unfold sm at h
  exact ⟨fun e => by have := ht e; exact List.length_eq_zero_iff.1 this, fun _ => by omega⟩
set_option maxRecDepth 100000 in
theorem ok68 : FnIs Tryz.prog 68 cloneC := by
  refine fnIs (C := (ctrs c0)) (by kernel_rfl) c0_ok Tryz.func68 (code := code68) (by kernel_rfl) (by kernel_rfl) ?_
  rintro a ⟨l, rfl, h⟩
  exact ⟨anns [], kcast (vc68 l h) (by kernel_rfl)⟩

noncomputable def code197 : Code := match Tryz.f197.body with | some c => c | none => .skip
set_option maxHeartbeats 4000000 in
theorem vc197 : ∀ (n : Nat), n ≤ (2199023255552 : Nat) → True ∧ True ∧ bits BinOp.and IntKind.i64 (IntKind.i64.wrap ((0 : Int) - (↑n : Int))) (3 : Int) = (↑(padN (↑n : Int).toNat) : Int) ∧
  (true && true) = true := by
  simp only [↓Bool.and_eq_true, true_and, and_true, Int.toNat_natCast]
  intro n h
  exact and_three
set_option maxRecDepth 100000 in
theorem ok197 : FnIs Tryz.prog 197 padC := by
  refine fnIs (C := (ctrs c0)) (by kernel_rfl) c0_ok Tryz.func197 (code := code197) (by kernel_rfl) (by kernel_rfl) ?_
  rintro a ⟨n, rfl, h⟩
  exact ⟨anns [], kcast (vc197 n h) (by kernel_rfl)⟩

theorem c1_ok : COk Tryz.prog (ctrs c1) := cok_cons ok68 (cok_cons ok197 cok_nil)

noncomputable def code165 : Code := match Tryz.f165.body with | some c => c | none => .skip
set_option maxHeartbeats 4000000 in
theorem vc165 : ∀ (l : List Int), sm l.length → (∃ (l_1 : List Int), [O.d (D.ints IntKind.u8 l)] = [O.d (D.ints IntKind.u8 l_1)] ∧ sm l_1.length) ∧ (∃ (n : Nat), [O.d (D.v (Value.int IntKind.i64 (↑l.length : Int)))] = [O.d (D.v (Value.int IntKind.i64 (↑n : Int)))] ∧
  n ≤ (2199023255552 : Nat)) ∧ ((0 : Int) ≤ (↑(padN (↑l.length : Int).toNat) : Int) ∧ (↑(padN (↑l.length : Int).toNat) : Int) ≤ (9223372036854775807 : Int) ∧
  (↑(padN (↑l.length : Int).toNat) : Int).toNat * Tryz.prog.types[(5 : Nat)].bytes ≤ (281474976710656 : Nat) ∧ IntKind.u8 = IntKind.u8) ∧ (l.length + (List.replicate (↑(padN (↑l.length : Int).toNat) : Int).toNat (0 : Int)).length) * Tryz.prog.types[(5 : Nat)].bytes ≤ (140737488355328 : Nat) ∧
  l ++ List.replicate (↑(padN (↑l.length : Int).toNat) : Int).toNat (0 : Int) = padF l ∧ (!false && true && true) = true := by
  simp only [↓Bool.and_eq_true, ↓Bool.not_eq_true', and_true, Int.toNat_natCast, Nat.mul_one, bytes5, List.length_replicate]
  intro l h
  have hp := padN_le l.length
  refine ⟨⟨l, rfl, h⟩, ⟨l.length, rfl, ?_⟩, ⟨by omega, by omega, by omega⟩, ?_, rfl⟩ <;> unfold sm at h <;> omega
set_option maxRecDepth 100000 in
theorem ok165 : FnIs Tryz.prog 165 paddedC := by
  refine fnIs (C := (ctrs c1)) (by kernel_rfl) c1_ok Tryz.func165 (code := code165) (by kernel_rfl) (by kernel_rfl) ?_
  rintro a ⟨l, rfl, h⟩
  exact ⟨anns [], kcast (vc165 l h) (by kernel_rfl)⟩

noncomputable def code99 : Code := match Tryz.f99.body with | some c => c | none => .skip
set_option maxHeartbeats 4000000 in
theorem vc99 : ∀ (b : List Int) (n : Int) (k : Nat), sm b.length → (1 : Nat) ≤ k → k ≤ (8 : Nat) → (∃ (l : List Int), [O.d (D.ints IntKind.u8 b)] = [O.d (D.ints IntKind.u8 l)] ∧
  sm l.length) ∧ True ∧ sw (decide ((↑k : Int) < (1 : Int))) (b = b ++ be n (↑k : Int).toNat ∧ (!false && true && true) = true) (True ∧ sw (decide ((8 : Int) < (↑k : Int))) (b = b ++ be n (↑k : Int).toNat ∧
  (!false && true && true) = true) (∃ (g0 : Nat), g0 ≤ k ∧ (0 : Int) = (↑g0 : Int) ∧ b = b ++ List.take g0 (be n k) ∧ (!false && true && true) = true ∧ ∀ (g : Nat), g ≤ k →
  True ∧ sw (decide ((↑g : Int) < (↑k : Int))) (True ∧ True ∧ True ∧ (0 : Int) ≤ IntKind.i64.wrap ((8 : Int) * IntKind.i64.wrap (IntKind.i64.wrap ((↑k : Int) - (1 : Int)) - (↑g : Int))) ∧
  True ∧ ((b ++ List.take g (be n k)).length + (1 : Nat)) * Tryz.prog.types[(5 : Nat)].bytes ≤ (140737488355328 : Nat) ∧ True ∧ ∃ (g' : Nat), g' ≤ k ∧ k - g' < k - g ∧
  (IntKind.i64.wrap ((↑g : Int) + (1 : Int)) = (↑g' : Int) ∧ b ++ List.take g (be n k) ++ [IntKind.u8.wrap (n.fdiv ((2 : Int) ^ min (IntKind.i64.wrap ((8 : Int) * IntKind.i64.wrap (IntKind.i64.wrap ((↑k : Int) - (1 : Int)) - (↑g : Int)))).toNat IntKind.u64.bits))] = b ++ List.take g' (be n k) ∧
  (!false && true && true && ((Nat.ble (2 : Nat) (4 : Nat) || (Nat.beq (1 : Nat) (4 : Nat) || false)) && true)) = true) ∧ (some (SV.c (Value.int IntKind.i64 (↑k : Int))) = some (SV.c (Value.int IntKind.i64 (↑k : Int))) ∧
  some (SV.c (Value.bool (decide ((8 : Int) < (↑k : Int))))) = some (SV.c (Value.bool (decide ((8 : Int) < (↑k : Int))))) ∧ some (SV.c (Value.bool (decide ((8 : Int) < (↑k : Int))))) = some (SV.c (Value.bool (decide ((8 : Int) < (↑k : Int))))) ∧
  some (SV.c (Value.int IntKind.i64 (↑k : Int))) = some (SV.c (Value.int IntKind.i64 (↑k : Int))) ∧ some (SV.b false) = some (SV.b false) ∧ some (SV.c (Value.bool (decide ((↑k : Int) < (1 : Int))))) = some (SV.c (Value.bool (decide ((↑k : Int) < (1 : Int))))) ∧
  some (SV.c (Value.int IntKind.i64 (↑k : Int))) = some (SV.c (Value.int IntKind.i64 (↑k : Int))) ∧ some (SV.a (1 : Nat)) = some (SV.a (1 : Nat)) ∧ some (SV.a (0 : Nat)) = some (SV.a (0 : Nat)) ∧
  some SV.nil = some SV.nil ∧ some (SV.a (0 : Nat)) = some (SV.a (0 : Nat)) ∧ some (SV.c (Value.int IntKind.u64 n)) = some (SV.c (Value.int IntKind.u64 n)) ∧
  some (SV.c (Value.int IntKind.i64 (↑k : Int))) = some (SV.c (Value.int IntKind.i64 (↑k : Int))) ∧ True) ∧ some (R.ro (D.ints IntKind.u8 b)) = some (R.ro (D.ints IntKind.u8 b)) ∧
  True) (b ++ List.take g (be n k) = b ++ be n (↑k : Int).toNat ∧ (!false && true && true) = true))) := by
  simp only [↓sw_iff, ↓Bool.and_eq_true, ↓decide_eq_true_eq, ↓decide_eq_false_iff_not, ↓Bool.not_eq_true', true_and, and_true, Bool.or_false, Nat.ble, Nat.beq, Int.toNat_natCast, List.length_append, Nat.mul_one, bytes5]
  intro b n k h h1 h2
  refine ⟨⟨b, rfl, h⟩, fun e => absurd e (by omega), fun _ => ⟨fun e => absurd e (by omega), fun _ => ⟨0, Nat.zero_le _, rfl, by simp, ?_⟩⟩⟩
  unfold sm at h
  intro g hg
  refine ⟨fun ht => ?_, fun ht => ?_⟩
  · have hlt : g < k := by have := ht; omega
    have e : IntKind.i64.wrap (8 * IntKind.i64.wrap (IntKind.i64.wrap ((k : Int) - 1) - (g : Int))) = ((8 * (k - 1 - g) : Nat) : Int) := by
      rw [wrap_i64_id (n := (k : Int) - 1) (by omega) (by omega), wrap_i64_id (n := (k : Int) - 1 - g) (by omega) (by omega), wrap_i64_id (by omega) (by omega)]; omega
    have hl : ((be n k).take g).length ≤ g := List.length_take_le _ _
    rw [e]
    refine ⟨by omega, by omega, g + 1, hlt, by omega, by rw [wrap_i64_id (by omega) (by omega)]; rfl, ?_⟩
    rw [shr_byte _ (by omega), be_step hlt]
  · have : k ≤ g := by have := ht; omega
    rw [List.take_of_length_le (by rw [be_len]; exact this)]
set_option maxRecDepth 100000 in
theorem ok99 : FnIs Tryz.prog 99 putC := by
  refine fnIs (C := (ctrs c1)) (by kernel_rfl) c1_ok Tryz.func99 (code := code99) (by kernel_rfl) (by kernel_rfl) ?_
  rintro a ⟨b, n, k, rfl, h, h1, h2⟩
  exact ⟨anns [(5, putAnn b n k)] [2], kcast (vc99 b n k h h1 h2) (by kernel_rfl)⟩

end Go.ZR

set_option maxRecDepth 100000
namespace Go.ZR
open Go.Z Go.ZM Go.Proofs
def onceC1 : Ctr := nC 1 false (fun a => ∃ p : Int, a = [.d (.ints .i64 [p])]) fun _ => [bO true]
def a1 : List (Nat × Ctr) := [(142, collC)]
theorem a1_ok : COk Tryz.prog (ctrs a1) := cok_cons Go.Proofs.YtdamnoleoakehaaGreatDoor.ok142 cok_nil
end Go.ZR

namespace Go.ZR
open Go.Proofs
open Go.Z Go.ZM Go.RowKit
set_option maxRecDepth 100000
noncomputable def iA4c90 : Code := match Tryz.f90.body with | some c => c | none => .skip
noncomputable def iA4_90 : InlF := ⟨iA4c90, Tryz.f90.ntmps, Tryz.f90.results.toList, anns []⟩
noncomputable def iA4c89 : Code := match Tryz.f89.body with | some c => c | none => .skip
noncomputable def iA4_89 : InlF := ⟨iA4c89, Tryz.f89.ntmps, Tryz.f89.results.toList, anns []⟩
noncomputable def iA4c143 : Code := match Tryz.f143.body with | some c => c | none => .skip
noncomputable def iA4_143 : InlF := ⟨iA4c143, Tryz.f143.ntmps, Tryz.f143.results.toList, anns []⟩
noncomputable def iA4c132 : Code := match Tryz.f132.body with | some c => c | none => .skip
noncomputable def iA4_132 : InlF := ⟨iA4c132, Tryz.f132.ntmps, Tryz.f132.results.toList, anns []⟩
noncomputable def iA4c191 : Code := match Tryz.f191.body with | some c => c | none => .skip
noncomputable def iA4_191 : InlF := ⟨iA4c191, Tryz.f191.ntmps, Tryz.f191.results.toList, anns []⟩
noncomputable def iA4c199 : Code := match Tryz.f199.body with | some c => c | none => .skip
noncomputable def iA4_199 : InlF := ⟨iA4c199, Tryz.f199.ntmps, Tryz.f199.results.toList, anns [] [] [(2, 2)]⟩
noncomputable def iA4c217 : Code := match Tryz.f217.body with | some c => c | none => .skip
noncomputable def iA4_217 : InlF := ⟨iA4c217, Tryz.f217.ntmps, Tryz.f217.results.toList, anns [] [] [(1, 2)]⟩
noncomputable def iA4c91 : Code := match Tryz.f91.body with | some c => c | none => .skip
noncomputable def iA4_91 : InlF := ⟨iA4c91, Tryz.f91.ntmps, Tryz.f91.results.toList, anns []⟩
noncomputable def iA4 : List (Nat × InlF) := [(90, iA4_90), (89, iA4_89), (143, iA4_143), (132, iA4_132), (191, iA4_191), (199, iA4_199), (217, iA4_217), (91, iA4_91)]
theorem iA4_ok : InlsOk Tryz.prog iA4 := ⟨inlOk Tryz.func90 (by kernel_rfl) (by kernel_rfl), inlOk Tryz.func89 (by kernel_rfl) (by kernel_rfl), inlOk Tryz.func143 (by kernel_rfl) (by kernel_rfl), inlOk Tryz.func132 (by kernel_rfl) (by kernel_rfl), inlOk Tryz.func191 (by kernel_rfl) (by kernel_rfl), inlOk Tryz.func199 (by kernel_rfl) (by kernel_rfl), inlOk Tryz.func217 (by kernel_rfl) (by kernel_rfl), inlOk Tryz.func91 (by kernel_rfl) (by kernel_rfl), trivial⟩
noncomputable def code42 : Code := match Tryz.f42.body with | some c => c | none => .skip
set_option maxHeartbeats 4000000 in
theorem vc42 : ∀ (p : Int), (∃ (F : Nat → D), ∃ (f : Nat → D), ∃ (l : List Int), [O.d (D.fn (144 : Nat) (0 : Nat) (1 : Nat) fun (i : Nat) => [D.ptr (39 : Nat) (1 : Nat) fun (i : Nat) => [D.ints IntKind.i64 [p]].getD i (D.v undef)].getD i (D.v undef))] = [O.d (D.fn (144 : Nat) (0 : Nat) (1 : Nat) F)] ∧
  F (0 : Nat) = D.ptr (39 : Nat) (1 : Nat) f ∧ f (0 : Nat) = D.ints IntKind.i64 l ∧ l.length * (8 : Nat) ≤ (140737488355328 : Nat)) ∧ True ∧ True ∧ True ∧
  ((0 : Int) ≤ IntKind.u8.wrap (IntKind.u64.wrap (↑(1 : Nat) : Int)) ∧ IntKind.u8.wrap (IntKind.u64.wrap (↑(1 : Nat) : Int)) < (↑(ByteArray.mk (([(0 : UInt8), (1 : UInt8), (2 : UInt8), (2 : UInt8), (3 : UInt8), (3 : UInt8), (3 : UInt8), (3 : UInt8), (4 : UInt8), (4 : UInt8), (4 : UInt8), (4 : UInt8), (4 : UInt8), (4 : UInt8), (4 : UInt8), (4 : UInt8), (5 : UInt8), (5 : UInt8), (5 : UInt8), (5 : UInt8), (5 : UInt8), (5 : UInt8), (5 : UInt8), (5 : UInt8), (5 : UInt8), (5 : UInt8), (5 : UInt8), (5 : UInt8), (5 : UInt8), (5 : UInt8), (5 : UInt8), (5 : UInt8), (6 : UInt8), (6 : UInt8), (6 : UInt8), (6 : UInt8), (6 : UInt8), (6 : UInt8), (6 : UInt8), (6 : UInt8), (6 : UInt8), (6 : UInt8), (6 : UInt8), (6 : UInt8), (6 : UInt8), (6 : UInt8), (6 : UInt8), (6 : UInt8), (6 : UInt8), (6 : UInt8), (6 : UInt8), (6 : UInt8), (6 : UInt8), (6 : UInt8), (6 : UInt8), (6 : UInt8), (6 : UInt8), (6 : UInt8), (6 : UInt8), (6 : UInt8), (6 : UInt8), (6 : UInt8), (6 : UInt8), (6 : UInt8)].append [(7 : UInt8), (7 : UInt8), (7 : UInt8), (7 : UInt8), (7 : UInt8), (7 : UInt8), (7 : UInt8), (7 : UInt8), (7 : UInt8), (7 : UInt8), (7 : UInt8), (7 : UInt8), (7 : UInt8), (7 : UInt8), (7 : UInt8), (7 : UInt8), (7 : UInt8), (7 : UInt8), (7 : UInt8), (7 : UInt8), (7 : UInt8), (7 : UInt8), (7 : UInt8), (7 : UInt8), (7 : UInt8), (7 : UInt8), (7 : UInt8), (7 : UInt8), (7 : UInt8), (7 : UInt8), (7 : UInt8), (7 : UInt8), (7 : UInt8), (7 : UInt8), (7 : UInt8), (7 : UInt8), (7 : UInt8), (7 : UInt8), (7 : UInt8), (7 : UInt8), (7 : UInt8), (7 : UInt8), (7 : UInt8), (7 : UInt8), (7 : UInt8), (7 : UInt8), (7 : UInt8), (7 : UInt8), (7 : UInt8), (7 : UInt8), (7 : UInt8), (7 : UInt8), (7 : UInt8), (7 : UInt8), (7 : UInt8), (7 : UInt8), (7 : UInt8), (7 : UInt8), (7 : UInt8), (7 : UInt8), (7 : UInt8), (7 : UInt8), (7 : UInt8), (7 : UInt8)]).append ([(8 : UInt8), (8 : UInt8), (8 : UInt8), (8 : UInt8), (8 : UInt8), (8 : UInt8), (8 : UInt8), (8 : UInt8), (8 : UInt8), (8 : UInt8), (8 : UInt8), (8 : UInt8), (8 : UInt8), (8 : UInt8), (8 : UInt8), (8 : UInt8), (8 : UInt8), (8 : UInt8), (8 : UInt8), (8 : UInt8), (8 : UInt8), (8 : UInt8), (8 : UInt8), (8 : UInt8), (8 : UInt8), (8 : UInt8), (8 : UInt8), (8 : UInt8), (8 : UInt8), (8 : UInt8), (8 : UInt8), (8 : UInt8), (8 : UInt8), (8 : UInt8), (8 : UInt8), (8 : UInt8), (8 : UInt8), (8 : UInt8), (8 : UInt8), (8 : UInt8), (8 : UInt8), (8 : UInt8), (8 : UInt8), (8 : UInt8), (8 : UInt8), (8 : UInt8), (8 : UInt8), (8 : UInt8), (8 : UInt8), (8 : UInt8), (8 : UInt8), (8 : UInt8), (8 : UInt8), (8 : UInt8), (8 : UInt8), (8 : UInt8), (8 : UInt8), (8 : UInt8), (8 : UInt8), (8 : UInt8), (8 : UInt8), (8 : UInt8), (8 : UInt8), (8 : UInt8)].append [(8 : UInt8), (8 : UInt8), (8 : UInt8), (8 : UInt8), (8 : UInt8), (8 : UInt8), (8 : UInt8), (8 : UInt8), (8 : UInt8), (8 : UInt8), (8 : UInt8), (8 : UInt8), (8 : UInt8), (8 : UInt8), (8 : UInt8), (8 : UInt8), (8 : UInt8), (8 : UInt8), (8 : UInt8), (8 : UInt8), (8 : UInt8), (8 : UInt8), (8 : UInt8), (8 : UInt8), (8 : UInt8), (8 : UInt8), (8 : UInt8), (8 : UInt8), (8 : UInt8), (8 : UInt8), (8 : UInt8), (8 : UInt8), (8 : UInt8), (8 : UInt8), (8 : UInt8), (8 : UInt8), (8 : UInt8), (8 : UInt8), (8 : UInt8), (8 : UInt8), (8 : UInt8), (8 : UInt8), (8 : UInt8), (8 : UInt8), (8 : UInt8), (8 : UInt8), (8 : UInt8), (8 : UInt8), (8 : UInt8), (8 : UInt8), (8 : UInt8), (8 : UInt8), (8 : UInt8), (8 : UInt8), (8 : UInt8), (8 : UInt8), (8 : UInt8), (8 : UInt8), (8 : UInt8), (8 : UInt8), (8 : UInt8), (8 : UInt8), (8 : UInt8), (8 : UInt8)])).toArray).size : Int)) ∧
  True ∧ True ∧ True ∧ True ∧ True ∧ True ∧ True ∧ decide ((↑(1 : Nat) : Int) = (↑(1 : Nat) : Int)) = true ∧ (true && true) = true := by
  intro p
  refine ⟨⟨_, _, [p], rfl, rfl, rfl, by simp⟩, ?_⟩
  decide +kernel
set_option maxRecDepth 100000 in
theorem ok42 : FnIs Tryz.prog 42 onceC1 := by
  refine fnIs (C := (ctrsJ Tryz.prog a1 iA4 6)) (by kernel_rfl) (cokJ (by kernel_rfl) a1_ok iA4_ok) Tryz.func42 (code := code42) (by kernel_rfl) (by kernel_rfl) ?_
  rintro a ⟨p, rfl⟩
  exact ⟨anns [], kcast (vc42 p) (by kernel_rfl)⟩

end Go.ZR

set_option maxRecDepth 100000
namespace Go.ZM
open Go.Z
def oddF (c : Int) : Bool := !((decide (97 ≤ c) && decide (c ≤ 122)) || (decide (48 ≤ c) && decide (c ≤ 57)) || decide (c = 46) || decide (c = 45))
def idxF : List Int → Int → Int
  | [], _ => -1
  | c :: l, i => if oddF c = true then i else idxF l (i + 1)
def nameB (l : List Int) : Bool := decide (1 ≤ l.length) && decide (l.length ≤ 32) && !(l.any oddF)
theorem idxF_drop {l : List Int} {i : Nat} (h : i < l.length) : idxF (l.drop i) (i : Int) = if oddF (l.getD i 0) = true then (i : Int) else idxF (l.drop (i + 1)) ((i + 1 : Nat) : Int) := by
  rw [List.drop_eq_getElem_cons h]
  have e : l.getD i 0 = l[i] := by simp [List.getD, h]
  rw [e]
  simp only [idxF]
  norm_cast
theorem idxF_ge : ∀ (l : List Int) (i : Int), 0 ≤ i → (0 ≤ idxF l i ↔ l.any oddF = true)
  | [], i, h => by simp [idxF]
  | c :: l, i, h => by
    simp only [idxF, List.any_cons]
    split
    · rename_i hc; simp [hc, h]
    · rename_i hc
      have := idxF_ge l (i + 1) (by omega)
      rw [this]
      simp [hc]
end Go.ZM
namespace Go.ZR
open Go.Z Go.ZM Go.Proofs
def oddC : Ctr := nC 1 true (fun a => ∃ c : Int, a = [iO .u8 c]) fun a => [bO (oddF (vi (dO (at_ a 0))))]
def fnO (G : Nat → D) : O := .d (.fn 139 0 0 G)
def idxC : Ctr := nC 2 true (fun a => ∃ (l : List Int) (G : Nat → D), a = [bsO l, fnO G] ∧ sm l.length) fun a => [iO .i64 (idxF (vl (dO (at_ a 0))) 0)]
def idxAnn (l : List Int) : LoopAnn where
  γ := Nat
  pre := fun i => i ≤ l.length ∧ idxF l 0 = idxF (l.drop i) (i : Int)
  μ := fun i => l.length - i
  items := fun i => [(8, .c (iO .i64 (i : Int)))]
def hasC : Ctr := nC 2 true (fun a => ∃ (l : List Int) (G : Nat → D), a = [bsO l, fnO G] ∧ sm l.length) fun a => [bO ((vl (dO (at_ a 0))).any oddF)]
def namedC : Ctr := nC 1 true (fun a => ∃ l : List Int, a = [bsO l] ∧ sm l.length) fun a => [bO (nameB (vl (dO (at_ a 0))))]
def fitsF (l : List Int) : Int := cond (nameB l) 0 11
def fitsC : Ctr := nC 2 true (fun a => ∃ l : List Int, a = [iO .i64 10, bsO l] ∧ sm l.length) fun a => [iO .i64 (fitsF (vl (dO (at_ a 1))))]
def n1 : List (Nat × Ctr) := [(139, oddC)]
def n2 : List (Nat × Ctr) := [(196, idxC)]
def n3 : List (Nat × Ctr) := [(140, hasC)]
def n4 : List (Nat × Ctr) := [(86, namedC)]
end Go.ZR

namespace Go.ZR
open Go.Proofs
open Go.Z Go.ZM Go.RowKit
set_option maxRecDepth 100000
noncomputable def code139 : Code := match Tryz.f139.body with | some c => c | none => .skip
set_option maxHeartbeats 4000000 in
theorem vc139 : ∀ (c : Int), True ∧ sw (decide ((97 : Int) ≤ c)) (True ∧ sw (decide (c ≤ (122 : Int))) (false = oddF c ∧ true = true) (True ∧ sw (decide ((48 : Int) ≤ c)) (True ∧
  sw (decide (c ≤ (57 : Int))) (false = oddF c ∧ true = true) (True ∧ sw (decide (c = (46 : Int))) (false = oddF c ∧ true = true) (True ∧ (!decide (c = (45 : Int))) = oddF c ∧
  true = true))) (True ∧ sw (decide (c = (46 : Int))) (false = oddF c ∧ true = true) (True ∧ (!decide (c = (45 : Int))) = oddF c ∧ true = true)))) (True ∧
  sw (decide ((48 : Int) ≤ c)) (True ∧ sw (decide (c ≤ (57 : Int))) (false = oddF c ∧ true = true) (True ∧ sw (decide (c = (46 : Int))) (false = oddF c ∧
  true = true) (True ∧ (!decide (c = (45 : Int))) = oddF c ∧ true = true))) (True ∧ sw (decide (c = (46 : Int))) (false = oddF c ∧ true = true) (True ∧ (!decide (c = (45 : Int))) = oddF c ∧
  true = true))) := by
  intro c
  unfold oddF
  refine ⟨trivial, ?_⟩
  by_cases h1 : (97 : Int) ≤ c <;> by_cases h2 : c ≤ (122 : Int) <;> by_cases h3 : (48 : Int) ≤ c <;> by_cases h4 : c ≤ (57 : Int) <;> by_cases h5 : c = (46 : Int) <;> simp [sw, h1, h2, h3, h4, h5]
set_option maxRecDepth 100000 in
theorem ok139 : FnIs Tryz.prog 139 oddC := by
  refine fnIs (C := (ctrs c0)) (by kernel_rfl) c0_ok Tryz.func139 (code := code139) (by kernel_rfl) (by kernel_rfl) ?_
  rintro a ⟨c, rfl⟩
  exact ⟨anns [] [1], kcast (vc139 c) (by kernel_rfl)⟩

theorem n1_ok : COk Tryz.prog (ctrs n1) := cok_cons ok139 cok_nil

noncomputable def code196 : Code := match Tryz.f196.body with | some c => c | none => .skip
set_option maxHeartbeats 4000000 in
theorem vc196 : ∀ (l : List Int) (_G : Nat → D), sm l.length → ∃ (g0 : Nat), (g0 ≤ l.length ∧ idxF l (0 : Int) = idxF (List.drop g0 l) (↑g0 : Int)) ∧ (0 : Int) = (↑g0 : Int) ∧
  true = true ∧ ∀ (g : Nat), g ≤ l.length ∧ idxF l (0 : Int) = idxF (List.drop g l) (↑g : Int) → True ∧ sw (decide ((↑g : Int) < (↑l.length : Int))) (((0 : Int) ≤ (↑g : Int) ∧
  (↑g : Int) < (↑l.length : Int)) ∧ (∃ (c : Int), [O.d (D.v (Value.int IntKind.u8 (l.getD (↑g : Int).toNat (0 : Int))))] = [O.d (D.v (Value.int IntKind.u8 c))]) ∧
  sw (oddF (l.getD (↑g : Int).toNat (0 : Int))) ((↑g : Int) = idxF l (0 : Int) ∧ true = true) (True ∧ ∃ (g' : Nat), (g' ≤ l.length ∧ idxF l (0 : Int) = idxF (List.drop g' l) (↑g' : Int)) ∧
  l.length - g' < l.length - g ∧ (IntKind.i64.wrap ((↑g : Int) + (1 : Int)) = (↑g' : Int) ∧ true = true) ∧ (some (SV.c (Value.int IntKind.i64 (↑l.length : Int))) = some (SV.c (Value.int IntKind.i64 (↑l.length : Int))) ∧
  some (SV.a (0 : Nat)) = some (SV.a (0 : Nat)) ∧ some (SV.a (0 : Nat)) = some (SV.a (0 : Nat)) ∧ some (SV.f (139 : Nat) (0 : Nat) []) = some (SV.f (139 : Nat) (0 : Nat) []) ∧
  True) ∧ some (R.ro (D.ints IntKind.u8 l)) = some (R.ro (D.ints IntKind.u8 l)) ∧ True)) ((-1 : Int) = idxF l (0 : Int) ∧ true = true) := by
  intro l G h
  have hl : l.length ≤ 1099511627776 := h
  refine ⟨0, ⟨Nat.zero_le _, by simp⟩, rfl, rfl, ?_⟩
  rintro g ⟨hg, hi⟩
  refine ⟨trivial, sw_iff.2 ⟨fun hlt => ?_, fun hge => ?_⟩⟩
  · have hlt : g < l.length := by have := of_decide_eq_true hlt; omega
    rw [idxF_drop hlt] at hi
    refine ⟨⟨by omega, by omega⟩, ⟨_, rfl⟩, sw_iff.2 ⟨fun ho => ?_, fun ho => ?_⟩⟩
    · rw [if_pos (by simpa using ho)] at hi
      exact ⟨hi.symm, rfl⟩
    · rw [if_neg (by simpa using ho)] at hi
      exact ⟨trivial, g + 1, ⟨hlt, hi⟩, by omega, ⟨by rw [IntKind.wrap_i64]; omega, rfl⟩, ⟨rfl, rfl, rfl, rfl, trivial⟩, rfl, trivial⟩
  · have hge : g = l.length := by have := of_decide_eq_false hge; omega
    subst hge
    rw [List.drop_length] at hi
    exact ⟨hi.symm, rfl⟩
set_option maxRecDepth 100000 in
theorem ok196 : FnIs Tryz.prog 196 idxC := by
  refine fnIs (C := (ctrs n1)) (by kernel_rfl) n1_ok Tryz.func196 (code := code196) (by kernel_rfl) (by kernel_rfl) ?_
  rintro a ⟨l, G, rfl, h⟩
  exact ⟨anns [(2, idxAnn l)], kcast (vc196 l G h) (by kernel_rfl)⟩

theorem n2_ok : COk Tryz.prog (ctrs n2) := cok_cons ok196 cok_nil

noncomputable def code140 : Code := match Tryz.f140.body with | some c => c | none => .skip
set_option maxHeartbeats 4000000 in
theorem vc140 : ∀ (l : List Int) (_G : Nat → D), sm l.length → (∃ (l_1 : List Int), ∃ (G_1 : Nat → D), [O.d (D.ints IntKind.u8 l), O.d (D.fn (139 : Nat) (0 : Nat) (0 : Nat) fun (i : Nat) => [].getD i (D.v undef))] = [O.d (D.ints IntKind.u8 l_1), O.d (D.fn (139 : Nat) (0 : Nat) (0 : Nat) G_1)] ∧
  sm l_1.length) ∧ True ∧ decide ((0 : Int) ≤ idxF l (0 : Int)) = l.any oddF ∧ true = true := by
  intro l G h
  refine ⟨⟨l, _, rfl, h⟩, trivial, ?_, rfl⟩
  rw [Bool.eq_iff_iff, decide_eq_true_eq]
  exact idxF_ge l 0 (by omega)
set_option maxRecDepth 100000 in
theorem ok140 : FnIs Tryz.prog 140 hasC := by
  refine fnIs (C := (ctrs n2)) (by kernel_rfl) n2_ok Tryz.func140 (code := code140) (by kernel_rfl) (by kernel_rfl) ?_
  rintro a ⟨l, G, rfl, h⟩
  exact ⟨anns [], kcast (vc140 l G h) (by kernel_rfl)⟩

theorem n3_ok : COk Tryz.prog (ctrs n3) := cok_cons ok140 cok_nil

noncomputable def code86 : Code := match Tryz.f86.body with | some c => c | none => .skip
set_option maxHeartbeats 4000000 in
theorem vc86 : ∀ (l : List Int), sm l.length → True ∧ sw (decide ((1 : Int) ≤ (↑l.length : Int))) (True ∧ sw (decide ((↑l.length : Int) ≤ (32 : Int))) ((∃ (l_1 : List Int), ∃ (G : Nat →
  D), [O.d (D.ints IntKind.u8 l), O.d (D.fn (139 : Nat) (0 : Nat) (0 : Nat) fun (i : Nat) => [].getD i (D.v undef))] = [O.d (D.ints IntKind.u8 l_1), O.d (D.fn (139 : Nat) (0 : Nat) (0 : Nat) G)] ∧
  sm l_1.length) ∧ (!l.any oddF) = nameB l ∧ true = true) (false = nameB l ∧ true = true)) (false = nameB l ∧ true = true) := by
  intro l h
  unfold nameB
  refine ⟨trivial, sw_iff.2 ⟨fun h1 => ⟨trivial, sw_iff.2 ⟨fun h2 => ⟨⟨l, _, rfl, h⟩, ?_, rfl⟩, fun h2 => ⟨?_, rfl⟩⟩⟩, fun h1 => ⟨?_, rfl⟩⟩⟩
  · have a1 := of_decide_eq_true h1
    have a2 := of_decide_eq_true h2
    rw [decide_eq_true (by omega : 1 ≤ l.length), decide_eq_true (by omega : l.length ≤ 32)]
    rfl
  · have a2 := of_decide_eq_false h2
    rw [decide_eq_false (by omega : ¬ l.length ≤ 32)]
    simp
  · have a1 := of_decide_eq_false h1
    rw [decide_eq_false (by omega : ¬ 1 ≤ l.length)]
    simp
set_option maxRecDepth 100000 in
theorem ok86 : FnIs Tryz.prog 86 namedC := by
  refine fnIs (C := (ctrs n3)) (by kernel_rfl) n3_ok Tryz.func86 (code := code86) (by kernel_rfl) (by kernel_rfl) ?_
  rintro a ⟨l, rfl, h⟩
  exact ⟨anns [] [2], kcast (vc86 l h) (by kernel_rfl)⟩

theorem n4_ok : COk Tryz.prog (ctrs n4) := cok_cons ok86 cok_nil

noncomputable def code41 : Code := match Tryz.f41.body with | some c => c | none => .skip
set_option maxHeartbeats 4000000 in
theorem vc41 : ∀ (l : List Int), sm l.length → True ∧ True ∧ True ∧ True ∧ True ∧ True ∧ True ∧ True ∧ (∃ (l_1 : List Int), [O.d (D.ints IntKind.u8 l)] = [O.d (D.ints IntKind.u8 l_1)] ∧
  sm l_1.length) ∧ sw (!nameB l) (((11 : Int) = bif nameB l then (0 : Int) else (11 : Int)) ∧ true = true) (((0 : Int) = bif nameB l then (0 : Int) else (11 : Int)) ∧
  true = true) := by
  intro l h
  refine ⟨trivial, trivial, trivial, trivial, trivial, trivial, trivial, trivial, ⟨l, rfl, h⟩, ?_⟩
  cases nameB l
  · exact ⟨rfl, rfl⟩
  · exact ⟨rfl, rfl⟩
set_option maxRecDepth 100000 in
theorem ok41 : FnIs Tryz.prog 41 fitsC := by
  refine fnIs (C := (ctrs n4)) (by kernel_rfl) n4_ok Tryz.func41 (code := code41) (by kernel_rfl) (by kernel_rfl) ?_
  rintro a ⟨l, rfl, h⟩
  exact ⟨anns [], kcast (vc41 l h) (by kernel_rfl)⟩

end Go.ZR
