/- Part 17 of what the closing text rests on. -/
import Derived.Test.YtdamnoleoakehaaGreatDoorG16
import Derived.Test.YtdamnoleoakehaaGreatDoorRows
namespace Go.ZR
open Go.Proofs
open Go.Z Go.ZM Go.RowKit
set_option maxRecDepth 100000
noncomputable def iA4c90 : Code := match Tryz.f90.body with | some c => c | none => .skip
noncomputable def iA4_90 : InlF := ⟨iA4c90, Tryz.f90.ntmps, Tryz.f90.results.toList, anns []⟩
noncomputable def iA4c89 : Code := match Tryz.f89.body with | some c => c | none => .skip
noncomputable def iA4_89 : InlF := ⟨iA4c89, Tryz.f89.ntmps, Tryz.f89.results.toList, anns []⟩
noncomputable def iA4c143 : Code := match Tryz.f143.body with | some c => c | none => .skip
noncomputable def iA4_143 : InlF := ⟨iA4c143, Tryz.f143.ntmps, Tryz.f143.results.toList, anns []⟩
noncomputable def iA4c132 : Code := match Tryz.f132.body with | some c => c | none => .skip
noncomputable def iA4_132 : InlF := ⟨iA4c132, Tryz.f132.ntmps, Tryz.f132.results.toList, anns []⟩
noncomputable def iA4c191 : Code := match Tryz.f191.body with | some c => c | none => .skip
noncomputable def iA4_191 : InlF := ⟨iA4c191, Tryz.f191.ntmps, Tryz.f191.results.toList, anns []⟩
noncomputable def iA4c199 : Code := match Tryz.f199.body with | some c => c | none => .skip
noncomputable def iA4_199 : InlF := ⟨iA4c199, Tryz.f199.ntmps, Tryz.f199.results.toList, anns [] [] [(2, 2)]⟩
noncomputable def iA4c217 : Code := match Tryz.f217.body with | some c => c | none => .skip
noncomputable def iA4_217 : InlF := ⟨iA4c217, Tryz.f217.ntmps, Tryz.f217.results.toList, anns [] [] [(1, 2)]⟩
noncomputable def iA4c91 : Code := match Tryz.f91.body with | some c => c | none => .skip
noncomputable def iA4_91 : InlF := ⟨iA4c91, Tryz.f91.ntmps, Tryz.f91.results.toList, anns []⟩
noncomputable def iA4 : List (Nat × InlF) := [(90, iA4_90), (89, iA4_89), (143, iA4_143), (132, iA4_132), (191, iA4_191), (199, iA4_199), (217, iA4_217), (91, iA4_91)]
theorem iA4_ok : InlsOk Tryz.prog iA4 := ⟨inlOk Tryz.func90 (by kernel_rfl) (by kernel_rfl), inlOk Tryz.func89 (by kernel_rfl) (by kernel_rfl), inlOk Tryz.func143 (by kernel_rfl) (by kernel_rfl), inlOk Tryz.func132 (by kernel_rfl) (by kernel_rfl), inlOk Tryz.func191 (by kernel_rfl) (by kernel_rfl), inlOk Tryz.func199 (by kernel_rfl) (by kernel_rfl), inlOk Tryz.func217 (by kernel_rfl) (by kernel_rfl), inlOk Tryz.func91 (by kernel_rfl) (by kernel_rfl), trivial⟩
noncomputable def code42 : Code := match Tryz.f42.body with | some c => c | none => .skip
set_option maxHeartbeats 4000000 in
theorem vc42 : ∀ (p : Int), (∃ (F : Nat → D), ∃ (f : Nat → D), ∃ (l : List Int), [O.d (D.fn (144 : Nat) (0 : Nat) (1 : Nat) fun (i : Nat) => [D.ptr (39 : Nat) (1 : Nat) fun (i : Nat) => [D.ints IntKind.i64 [p]].getD i (D.v undef)].getD i (D.v undef))] = [O.d (D.fn (144 : Nat) (0 : Nat) (1 : Nat) F)] ∧
  F (0 : Nat) = D.ptr (39 : Nat) (1 : Nat) f ∧ f (0 : Nat) = D.ints IntKind.i64 l ∧ l.length * (8 : Nat) ≤ (140737488355328 : Nat)) ∧ True ∧ True ∧ True ∧
  ((0 : Int) ≤ IntKind.u8.wrap (IntKind.u64.wrap (↑(1 : Nat) : Int)) ∧ IntKind.u8.wrap (IntKind.u64.wrap (↑(1 : Nat) : Int)) < (↑(ByteArray.mk (([(0 : UInt8), (1 : UInt8), (2 : UInt8), (2 : UInt8), (3 : UInt8), (3 : UInt8), (3 : UInt8), (3 : UInt8), (4 : UInt8), (4 : UInt8), (4 : UInt8), (4 : UInt8), (4 : UInt8), (4 : UInt8), (4 : UInt8), (4 : UInt8), (5 : UInt8), (5 : UInt8), (5 : UInt8), (5 : UInt8), (5 : UInt8), (5 : UInt8), (5 : UInt8), (5 : UInt8), (5 : UInt8), (5 : UInt8), (5 : UInt8), (5 : UInt8), (5 : UInt8), (5 : UInt8), (5 : UInt8), (5 : UInt8), (6 : UInt8), (6 : UInt8), (6 : UInt8), (6 : UInt8), (6 : UInt8), (6 : UInt8), (6 : UInt8), (6 : UInt8), (6 : UInt8), (6 : UInt8), (6 : UInt8), (6 : UInt8), (6 : UInt8), (6 : UInt8), (6 : UInt8), (6 : UInt8), (6 : UInt8), (6 : UInt8), (6 : UInt8), (6 : UInt8), (6 : UInt8), (6 : UInt8), (6 : UInt8), (6 : UInt8), (6 : UInt8), (6 : UInt8), (6 : UInt8), (6 : UInt8), (6 : UInt8), (6 : UInt8), (6 : UInt8), (6 : UInt8)].append [(7 : UInt8), (7 : UInt8), (7 : UInt8), (7 : UInt8), (7 : UInt8), (7 : UInt8), (7 : UInt8), (7 : UInt8), (7 : UInt8), (7 : UInt8), (7 : UInt8), (7 : UInt8), (7 : UInt8), (7 : UInt8), (7 : UInt8), (7 : UInt8), (7 : UInt8), (7 : UInt8), (7 : UInt8), (7 : UInt8), (7 : UInt8), (7 : UInt8), (7 : UInt8), (7 : UInt8), (7 : UInt8), (7 : UInt8), (7 : UInt8), (7 : UInt8), (7 : UInt8), (7 : UInt8), (7 : UInt8), (7 : UInt8), (7 : UInt8), (7 : UInt8), (7 : UInt8), (7 : UInt8), (7 : UInt8), (7 : UInt8), (7 : UInt8), (7 : UInt8), (7 : UInt8), (7 : UInt8), (7 : UInt8), (7 : UInt8), (7 : UInt8), (7 : UInt8), (7 : UInt8), (7 : UInt8), (7 : UInt8), (7 : UInt8), (7 : UInt8), (7 : UInt8), (7 : UInt8), (7 : UInt8), (7 : UInt8), (7 : UInt8), (7 : UInt8), (7 : UInt8), (7 : UInt8), (7 : UInt8), (7 : UInt8), (7 : UInt8), (7 : UInt8), (7 : UInt8)]).append ([(8 : UInt8), (8 : UInt8), (8 : UInt8), (8 : UInt8), (8 : UInt8), (8 : UInt8), (8 : UInt8), (8 : UInt8), (8 : UInt8), (8 : UInt8), (8 : UInt8), (8 : UInt8), (8 : UInt8), (8 : UInt8), (8 : UInt8), (8 : UInt8), (8 : UInt8), (8 : UInt8), (8 : UInt8), (8 : UInt8), (8 : UInt8), (8 : UInt8), (8 : UInt8), (8 : UInt8), (8 : UInt8), (8 : UInt8), (8 : UInt8), (8 : UInt8), (8 : UInt8), (8 : UInt8), (8 : UInt8), (8 : UInt8), (8 : UInt8), (8 : UInt8), (8 : UInt8), (8 : UInt8), (8 : UInt8), (8 : UInt8), (8 : UInt8), (8 : UInt8), (8 : UInt8), (8 : UInt8), (8 : UInt8), (8 : UInt8), (8 : UInt8), (8 : UInt8), (8 : UInt8), (8 : UInt8), (8 : UInt8), (8 : UInt8), (8 : UInt8), (8 : UInt8), (8 : UInt8), (8 : UInt8), (8 : UInt8), (8 : UInt8), (8 : UInt8), (8 : UInt8), (8 : UInt8), (8 : UInt8), (8 : UInt8), (8 : UInt8), (8 : UInt8), (8 : UInt8)].append [(8 : UInt8), (8 : UInt8), (8 : UInt8), (8 : UInt8), (8 : UInt8), (8 : UInt8), (8 : UInt8), (8 : UInt8), (8 : UInt8), (8 : UInt8), (8 : UInt8), (8 : UInt8), (8 : UInt8), (8 : UInt8), (8 : UInt8), (8 : UInt8), (8 : UInt8), (8 : UInt8), (8 : UInt8), (8 : UInt8), (8 : UInt8), (8 : UInt8), (8 : UInt8), (8 : UInt8), (8 : UInt8), (8 : UInt8), (8 : UInt8), (8 : UInt8), (8 : UInt8), (8 : UInt8), (8 : UInt8), (8 : UInt8), (8 : UInt8), (8 : UInt8), (8 : UInt8), (8 : UInt8), (8 : UInt8), (8 : UInt8), (8 : UInt8), (8 : UInt8), (8 : UInt8), (8 : UInt8), (8 : UInt8), (8 : UInt8), (8 : UInt8), (8 : UInt8), (8 : UInt8), (8 : UInt8), (8 : UInt8), (8 : UInt8), (8 : UInt8), (8 : UInt8), (8 : UInt8), (8 : UInt8), (8 : UInt8), (8 : UInt8), (8 : UInt8), (8 : UInt8), (8 : UInt8), (8 : UInt8), (8 : UInt8), (8 : UInt8), (8 : UInt8), (8 : UInt8)])).toArray).size : Int)) ∧
  True ∧ True ∧ True ∧ True ∧ True ∧ True ∧ True ∧ decide ((↑(1 : Nat) : Int) = (↑(1 : Nat) : Int)) = true ∧ (true && true) = true := by
  intro p
  refine ⟨⟨_, _, [p], rfl, rfl, rfl, by simp⟩, ?_⟩
  decide +kernel
set_option maxRecDepth 100000 in
theorem ok42 : FnIs Tryz.prog 42 onceC1 := by
  refine fnIs (C := (ctrsJ Tryz.prog a1 iA4 6)) (by kernel_rfl) (cokJ (by kernel_rfl) a1_ok iA4_ok) Tryz.func42 (code := code42) (by kernel_rfl) (by kernel_rfl) ?_
  rintro a ⟨p, rfl⟩
  exact ⟨anns [], kcast (vc42 p) (by kernel_rfl)⟩

end Go.ZR

set_option maxRecDepth 100000
namespace Go.ZM
open Go.Z
def oddF (c : Int) : Bool := !((decide (97 ≤ c) && decide (c ≤ 122)) || (decide (48 ≤ c) && decide (c ≤ 57)) || decide (c = 46) || decide (c = 45))
def idxF : List Int → Int → Int
  | [], _ => -1
  | c :: l, i => if oddF c = true then i else idxF l (i + 1)
def nameB (l : List Int) : Bool := decide (1 ≤ l.length) && decide (l.length ≤ 32) && !(l.any oddF)
theorem idxF_drop {l : List Int} {i : Nat} (h : i < l.length) : idxF (l.drop i) (i : Int) = if oddF (l.getD i 0) = true then (i : Int) else idxF (l.drop (i + 1)) ((i + 1 : Nat) : Int) := by
  rw [List.drop_eq_getElem_cons h]
  have e : l.getD i 0 = l[i] := by simp [List.getD, h]
  rw [e]
  simp only [idxF]
  norm_cast
theorem idxF_ge : ∀ (l : List Int) (i : Int), 0 ≤ i → (0 ≤ idxF l i ↔ l.any oddF = true)
  | [], i, h => by simp [idxF]
  | c :: l, i, h => by
    simp only [idxF, List.any_cons]
    split
    · rename_i hc; simp [hc, h]
    · rename_i hc
      have := idxF_ge l (i + 1) (by omega)
      rw [this]
      simp [hc]
end Go.ZM
namespace Go.ZR
open Go.Z Go.ZM Go.Proofs
def oddC : Ctr := nC 1 true (fun a => ∃ c : Int, a = [iO .u8 c]) fun a => [bO (oddF (vi (dO (at_ a 0))))]
def fnO (G : Nat → D) : O := .d (.fn 139 0 0 G)
def idxC : Ctr := nC 2 true (fun a => ∃ (l : List Int) (G : Nat → D), a = [bsO l, fnO G] ∧ sm l.length) fun a => [iO .i64 (idxF (vl (dO (at_ a 0))) 0)]
def idxAnn (l : List Int) : LoopAnn where
  γ := Nat
  pre := fun i => i ≤ l.length ∧ idxF l 0 = idxF (l.drop i) (i : Int)
  μ := fun i => l.length - i
  items := fun i => [(8, .c (iO .i64 (i : Int)))]
def hasC : Ctr := nC 2 true (fun a => ∃ (l : List Int) (G : Nat → D), a = [bsO l, fnO G] ∧ sm l.length) fun a => [bO ((vl (dO (at_ a 0))).any oddF)]
def namedC : Ctr := nC 1 true (fun a => ∃ l : List Int, a = [bsO l] ∧ sm l.length) fun a => [bO (nameB (vl (dO (at_ a 0))))]
def fitsF (l : List Int) : Int := cond (nameB l) 0 11
def fitsC : Ctr := nC 2 true (fun a => ∃ l : List Int, a = [iO .i64 10, bsO l] ∧ sm l.length) fun a => [iO .i64 (fitsF (vl (dO (at_ a 1))))]
def n1 : List (Nat × Ctr) := [(139, oddC)]
def n2 : List (Nat × Ctr) := [(196, idxC)]
def n3 : List (Nat × Ctr) := [(140, hasC)]
def n4 : List (Nat × Ctr) := [(86, namedC)]
end Go.ZR

namespace Go.ZR
open Go.Proofs
open Go.Z Go.ZM Go.RowKit
set_option maxRecDepth 100000
noncomputable def code139 : Code := match Tryz.f139.body with | some c => c | none => .skip
set_option maxHeartbeats 4000000 in
theorem vc139 : ∀ (c : Int), True ∧ sw (decide ((97 : Int) ≤ c)) (True ∧ sw (decide (c ≤ (122 : Int))) (false = oddF c ∧ true = true) (True ∧ sw (decide ((48 : Int) ≤ c)) (True ∧
  sw (decide (c ≤ (57 : Int))) (false = oddF c ∧ true = true) (True ∧ sw (decide (c = (46 : Int))) (false = oddF c ∧ true = true) (True ∧ (!decide (c = (45 : Int))) = oddF c ∧
  true = true))) (True ∧ sw (decide (c = (46 : Int))) (false = oddF c ∧ true = true) (True ∧ (!decide (c = (45 : Int))) = oddF c ∧ true = true)))) (True ∧
  sw (decide ((48 : Int) ≤ c)) (True ∧ sw (decide (c ≤ (57 : Int))) (false = oddF c ∧ true = true) (True ∧ sw (decide (c = (46 : Int))) (false = oddF c ∧
  true = true) (True ∧ (!decide (c = (45 : Int))) = oddF c ∧ true = true))) (True ∧ sw (decide (c = (46 : Int))) (false = oddF c ∧ true = true) (True ∧ (!decide (c = (45 : Int))) = oddF c ∧
  true = true))) := by
  intro c
  unfold oddF
  refine ⟨trivial, ?_⟩
  by_cases h1 : (97 : Int) ≤ c <;> by_cases h2 : c ≤ (122 : Int) <;> by_cases h3 : (48 : Int) ≤ c <;> by_cases h4 : c ≤ (57 : Int) <;> by_cases h5 : c = (46 : Int) <;> simp [sw, h1, h2, h3, h4, h5]
set_option maxRecDepth 100000 in
theorem ok139 : FnIs Tryz.prog 139 oddC := by
  refine fnIs (C := (ctrs c0)) (by kernel_rfl) c0_ok Tryz.func139 (code := code139) (by kernel_rfl) (by kernel_rfl) ?_
  rintro a ⟨c, rfl⟩
  exact ⟨anns [] [1], kcast (vc139 c) (by kernel_rfl)⟩

theorem n1_ok : COk Tryz.prog (ctrs n1) := cok_cons ok139 cok_nil

noncomputable def code196 : Code := match Tryz.f196.body with | some c => c | none => .skip
set_option maxHeartbeats 4000000 in
theorem vc196 : ∀ (l : List Int) (_G : Nat → D), sm l.length → ∃ (g0 : Nat), (g0 ≤ l.length ∧ idxF l (0 : Int) = idxF (List.drop g0 l) (↑g0 : Int)) ∧ (0 : Int) = (↑g0 : Int) ∧
  true = true ∧ ∀ (g : Nat), g ≤ l.length ∧ idxF l (0 : Int) = idxF (List.drop g l) (↑g : Int) → True ∧ sw (decide ((↑g : Int) < (↑l.length : Int))) (((0 : Int) ≤ (↑g : Int) ∧
  (↑g : Int) < (↑l.length : Int)) ∧ (∃ (c : Int), [O.d (D.v (Value.int IntKind.u8 (l.getD (↑g : Int).toNat (0 : Int))))] = [O.d (D.v (Value.int IntKind.u8 c))]) ∧
  sw (oddF (l.getD (↑g : Int).toNat (0 : Int))) ((↑g : Int) = idxF l (0 : Int) ∧ true = true) (True ∧ ∃ (g' : Nat), (g' ≤ l.length ∧ idxF l (0 : Int) = idxF (List.drop g' l) (↑g' : Int)) ∧
  l.length - g' < l.length - g ∧ (IntKind.i64.wrap ((↑g : Int) + (1 : Int)) = (↑g' : Int) ∧ true = true) ∧ (some (SV.c (Value.int IntKind.i64 (↑l.length : Int))) = some (SV.c (Value.int IntKind.i64 (↑l.length : Int))) ∧
  some (SV.a (0 : Nat)) = some (SV.a (0 : Nat)) ∧ some (SV.a (0 : Nat)) = some (SV.a (0 : Nat)) ∧ some (SV.f (139 : Nat) (0 : Nat) []) = some (SV.f (139 : Nat) (0 : Nat) []) ∧
  True) ∧ some (R.ro (D.ints IntKind.u8 l)) = some (R.ro (D.ints IntKind.u8 l)) ∧ True)) ((-1 : Int) = idxF l (0 : Int) ∧ true = true) := by
  intro l G h
  have hl : l.length ≤ 1099511627776 := h
  refine ⟨0, ⟨Nat.zero_le _, by simp⟩, rfl, rfl, ?_⟩
  rintro g ⟨hg, hi⟩
  refine ⟨trivial, sw_iff.2 ⟨fun hlt => ?_, fun hge => ?_⟩⟩
  · have hlt : g < l.length := by have := of_decide_eq_true hlt; omega
    rw [idxF_drop hlt] at hi
    refine ⟨⟨by omega, by omega⟩, ⟨_, rfl⟩, sw_iff.2 ⟨fun ho => ?_, fun ho => ?_⟩⟩
    · rw [if_pos (by simpa using ho)] at hi
      exact ⟨hi.symm, rfl⟩
    · rw [if_neg (by simpa using ho)] at hi
      exact ⟨trivial, g + 1, ⟨hlt, hi⟩, by omega, ⟨by rw [IntKind.wrap_i64]; omega, rfl⟩, ⟨rfl, rfl, rfl, rfl, trivial⟩, rfl, trivial⟩
  · have hge : g = l.length := by have := of_decide_eq_false hge; omega
    subst hge
    rw [List.drop_length] at hi
    exact ⟨hi.symm, rfl⟩
set_option maxRecDepth 100000 in
theorem ok196 : FnIs Tryz.prog 196 idxC := by
  refine fnIs (C := (ctrs n1)) (by kernel_rfl) n1_ok Tryz.func196 (code := code196) (by kernel_rfl) (by kernel_rfl) ?_
  rintro a ⟨l, G, rfl, h⟩
  exact ⟨anns [(2, idxAnn l)], kcast (vc196 l G h) (by kernel_rfl)⟩

theorem n2_ok : COk Tryz.prog (ctrs n2) := cok_cons ok196 cok_nil

noncomputable def code140 : Code := match Tryz.f140.body with | some c => c | none => .skip
set_option maxHeartbeats 4000000 in
theorem vc140 : ∀ (l : List Int) (_G : Nat → D), sm l.length → (∃ (l_1 : List Int), ∃ (G_1 : Nat → D), [O.d (D.ints IntKind.u8 l), O.d (D.fn (139 : Nat) (0 : Nat) (0 : Nat) fun (i : Nat) => [].getD i (D.v undef))] = [O.d (D.ints IntKind.u8 l_1), O.d (D.fn (139 : Nat) (0 : Nat) (0 : Nat) G_1)] ∧
  sm l_1.length) ∧ True ∧ decide ((0 : Int) ≤ idxF l (0 : Int)) = l.any oddF ∧ true = true := by
  intro l G h
  refine ⟨⟨l, _, rfl, h⟩, trivial, ?_, rfl⟩
  rw [Bool.eq_iff_iff, decide_eq_true_eq]
  exact idxF_ge l 0 (by omega)
set_option maxRecDepth 100000 in
theorem ok140 : FnIs Tryz.prog 140 hasC := by
  refine fnIs (C := (ctrs n2)) (by kernel_rfl) n2_ok Tryz.func140 (code := code140) (by kernel_rfl) (by kernel_rfl) ?_
  rintro a ⟨l, G, rfl, h⟩
  exact ⟨anns [], kcast (vc140 l G h) (by kernel_rfl)⟩

theorem n3_ok : COk Tryz.prog (ctrs n3) := cok_cons ok140 cok_nil

noncomputable def code86 : Code := match Tryz.f86.body with | some c => c | none => .skip
set_option maxHeartbeats 4000000 in
theorem vc86 : ∀ (l : List Int), sm l.length → True ∧ sw (decide ((1 : Int) ≤ (↑l.length : Int))) (True ∧ sw (decide ((↑l.length : Int) ≤ (32 : Int))) ((∃ (l_1 : List Int), ∃ (G : Nat →
  D), [O.d (D.ints IntKind.u8 l), O.d (D.fn (139 : Nat) (0 : Nat) (0 : Nat) fun (i : Nat) => [].getD i (D.v undef))] = [O.d (D.ints IntKind.u8 l_1), O.d (D.fn (139 : Nat) (0 : Nat) (0 : Nat) G)] ∧
  sm l_1.length) ∧ (!l.any oddF) = nameB l ∧ true = true) (false = nameB l ∧ true = true)) (false = nameB l ∧ true = true) := by
  intro l h
  unfold nameB
  refine ⟨trivial, sw_iff.2 ⟨fun h1 => ⟨trivial, sw_iff.2 ⟨fun h2 => ⟨⟨l, _, rfl, h⟩, ?_, rfl⟩, fun h2 => ⟨?_, rfl⟩⟩⟩, fun h1 => ⟨?_, rfl⟩⟩⟩
  · have a1 := of_decide_eq_true h1
    have a2 := of_decide_eq_true h2
    rw [decide_eq_true (by omega : 1 ≤ l.length), decide_eq_true (by omega : l.length ≤ 32)]
    rfl
  · have a2 := of_decide_eq_false h2
    rw [decide_eq_false (by omega : ¬ l.length ≤ 32)]
    simp
  · have a1 := of_decide_eq_false h1
    rw [decide_eq_false (by omega : ¬ 1 ≤ l.length)]
    simp
set_option maxRecDepth 100000 in
theorem ok86 : FnIs Tryz.prog 86 namedC := by
  refine fnIs (C := (ctrs n3)) (by kernel_rfl) n3_ok Tryz.func86 (code := code86) (by kernel_rfl) (by kernel_rfl) ?_
  rintro a ⟨l, rfl, h⟩
  exact ⟨anns [] [2], kcast (vc86 l h) (by kernel_rfl)⟩

theorem n4_ok : COk Tryz.prog (ctrs n4) := cok_cons ok86 cok_nil

noncomputable def code41 : Code := match Tryz.f41.body with | some c => c | none => .skip
set_option maxHeartbeats 4000000 in
theorem vc41 : ∀ (l : List Int), sm l.length → True ∧ True ∧ True ∧ True ∧ True ∧ True ∧ True ∧ True ∧ (∃ (l_1 : List Int), [O.d (D.ints IntKind.u8 l)] = [O.d (D.ints IntKind.u8 l_1)] ∧
  sm l_1.length) ∧ sw (!nameB l) (((11 : Int) = bif nameB l then (0 : Int) else (11 : Int)) ∧ true = true) (((0 : Int) = bif nameB l then (0 : Int) else (11 : Int)) ∧
  true = true) := by
  intro l h
  refine ⟨trivial, trivial, trivial, trivial, trivial, trivial, trivial, trivial, ⟨l, rfl, h⟩, ?_⟩
  cases nameB l
  · exact ⟨rfl, rfl⟩
  · exact ⟨rfl, rfl⟩
set_option maxRecDepth 100000 in
theorem ok41 : FnIs Tryz.prog 41 fitsC := by
  refine fnIs (C := (ctrs n4)) (by kernel_rfl) n4_ok Tryz.func41 (code := code41) (by kernel_rfl) (by kernel_rfl) ?_
  rintro a ⟨l, rfl, h⟩
  exact ⟨anns [], kcast (vc41 l h) (by kernel_rfl)⟩

end Go.ZR

set_option maxRecDepth 100000
namespace Go.ZM
open Go.Z
def strA : ByteArray := ⟨#[97]⟩
def strB : ByteArray := ⟨#[98]⟩
def strL : ByteArray := ⟨#[108, 101, 102, 116]⟩
def strR : ByteArray := ⟨#[114, 105, 103, 104, 116]⟩
end Go.ZM
namespace Go.ZR
open Go.Z Go.ZM Go.Proofs
def nodesD : D := .recs 5 2 (gridD 5 [.v (.string strA), .v (.string strL), .v (.bool false), .ints .i64 [1], .recs 2 1 (gridD 2 [.v (.string strR), .ints .i64 [1]]),
  .v (.string strB), .v (.string strR), .v (.bool true), .ints .i64 [0], .recs 2 0 (gridD 2 [])])
def cfgO : O := .agg [.d nodesD, iO .i64 100, iO .i64 50, iO .i64 40, iO .i64 20]
def soundC0 : Ctr := nC 1 false (fun a => a = [cfgO]) fun _ => [iO .i64 0]
def a2 : List (Nat × Ctr) := [(42, onceC1), (41, fitsC)]
theorem a2_ok : COk Tryz.prog (ctrs a2) := cok_cons ok42 (cok_cons ok41 cok_nil)
end Go.ZR

namespace Go.ZR
open Go.Proofs
open Go.Z Go.ZM Go.RowKit
set_option maxRecDepth 100000
noncomputable def iA8c40 : Code := match Tryz.f40.body with | some c => c | none => .skip
noncomputable def iA8_40 : InlF := ⟨iA8c40, Tryz.f40.ntmps, Tryz.f40.results.toList, anns [] [1]⟩
noncomputable def iA8c43 : Code := match Tryz.f43.body with | some c => c | none => .skip
noncomputable def iA8_43 : InlF := ⟨iA8c43, Tryz.f43.ntmps, Tryz.f43.results.toList, anns [] [1]⟩
noncomputable def iA8c92 : Code := match Tryz.f92.body with | some c => c | none => .skip
noncomputable def iA8_92 : InlF := ⟨iA8c92, Tryz.f92.ntmps, Tryz.f92.results.toList, anns []⟩
noncomputable def iA8c145 : Code := match Tryz.f145.body with | some c => c | none => .skip
noncomputable def iA8_145 : InlF := ⟨iA8c145, Tryz.f145.ntmps, Tryz.f145.results.toList, anns [] [] [(2, 2)]⟩
noncomputable def iA8c93 : Code := match Tryz.f93.body with | some c => c | none => .skip
noncomputable def iA8_93 : InlF := ⟨iA8c93, Tryz.f93.ntmps, Tryz.f93.results.toList, anns [] [1]⟩
noncomputable def iA8c94 : Code := match Tryz.f94.body with | some c => c | none => .skip
noncomputable def iA8_94 : InlF := ⟨iA8c94, Tryz.f94.ntmps, Tryz.f94.results.toList, anns []⟩
noncomputable def iA8c146 : Code := match Tryz.f146.body with | some c => c | none => .skip
noncomputable def iA8_146 : InlF := ⟨iA8c146, Tryz.f146.ntmps, Tryz.f146.results.toList, anns [] [] [(2, 2)]⟩
noncomputable def iA8c95 : Code := match Tryz.f95.body with | some c => c | none => .skip
noncomputable def iA8_95 : InlF := ⟨iA8c95, Tryz.f95.ntmps, Tryz.f95.results.toList, anns []⟩
noncomputable def iA8c44 : Code := match Tryz.f44.body with | some c => c | none => .skip
noncomputable def iA8_44 : InlF := ⟨iA8c44, Tryz.f44.ntmps, Tryz.f44.results.toList, anns []⟩
noncomputable def iA8c96 : Code := match Tryz.f96.body with | some c => c | none => .skip
noncomputable def iA8_96 : InlF := ⟨iA8c96, Tryz.f96.ntmps, Tryz.f96.results.toList, anns [] [] [(2, 2)]⟩
noncomputable def iA8 : List (Nat × InlF) := [(40, iA8_40), (43, iA8_43), (92, iA8_92), (145, iA8_145), (93, iA8_93), (94, iA8_94), (146, iA8_146), (95, iA8_95), (44, iA8_44), (96, iA8_96)]
theorem iA8_ok : InlsOk Tryz.prog iA8 := ⟨inlOk Tryz.func40 (by kernel_rfl) (by kernel_rfl), inlOk Tryz.func43 (by kernel_rfl) (by kernel_rfl), inlOk Tryz.func92 (by kernel_rfl) (by kernel_rfl), inlOk Tryz.func145 (by kernel_rfl) (by kernel_rfl), inlOk Tryz.func93 (by kernel_rfl) (by kernel_rfl), inlOk Tryz.func94 (by kernel_rfl) (by kernel_rfl), inlOk Tryz.func146 (by kernel_rfl) (by kernel_rfl), inlOk Tryz.func95 (by kernel_rfl) (by kernel_rfl), inlOk Tryz.func44 (by kernel_rfl) (by kernel_rfl), inlOk Tryz.func96 (by kernel_rfl) (by kernel_rfl), trivial⟩
noncomputable def code14 : Code := match Tryz.f14.body with | some c => c | none => .skip
set_option maxHeartbeats 4000000 in
theorem vc14 : True ∧ True ∧ True ∧ True ∧ True ∧ True ∧ True ∧ True ∧ True ∧ True ∧ True ∧ ((0 : Int) ≤ (0 : Int) ∧ (0 : Int) < (↑(2 : Nat) : Int)) ∧ True ∧ ((0 : Int) ≤ (0 : Int) ∧
  (0 : Int) < (↑(2 : Nat) : Int)) ∧ (∃ (l : List Int), [O.d (D.v (Value.int IntKind.i64 (10 : Int))), O.d (D.ints IntKind.u8 [(97 : Int)])] = [O.d (D.v (Value.int IntKind.i64 (10 : Int))), O.d (D.ints IntKind.u8 l)] ∧
  sm l.length) ∧ True ∧ True ∧ True ∧ ((0 : Int) ≤ (1 : Int) ∧ (1 : Int) < (↑(2 : Nat) : Int)) ∧ (∃ (l : List Int), [O.d (D.v (Value.int IntKind.i64 (10 : Int))), O.d (D.ints IntKind.u8 [(108 : Int), (101 : Int), (102 : Int), (116 : Int)])] = [O.d (D.v (Value.int IntKind.i64 (10 : Int))), O.d (D.ints IntKind.u8 l)] ∧
  sm l.length) ∧ True ∧ True ∧ True ∧ (∃ (p : Int), [O.d (D.ints IntKind.i64 [(1 : Int)])] = [O.d (D.ints IntKind.i64 [p])]) ∧ True ∧ True ∧ ((0 : Int) ≤ (0 : Int) ∧
  (0 : Int) < (↑(1 : Nat) : Int)) ∧ (∃ (l : List Int), [O.d (D.v (Value.int IntKind.i64 (10 : Int))), O.d (D.ints IntKind.u8 [(114 : Int), (105 : Int), (103 : Int), (104 : Int), (116 : Int)])] = [O.d (D.v (Value.int IntKind.i64 (10 : Int))), O.d (D.ints IntKind.u8 l)] ∧
  sm l.length) ∧ True ∧ True ∧ True ∧ ((0 : Int) ≤ (0 : Int) ∧ (0 : Int) < (1 : Int)) ∧ True ∧ ((0 : Int) ≤ (0 : Int) ∧ (0 : Int) < (1 : Int)) ∧ True ∧ True ∧
  True ∧ True ∧ True ∧ True ∧ True ∧ True ∧ True ∧ ((0 : Int) ≤ (0 : Int) ∧ (0 : Int) < (1 : Int)) ∧ True ∧ True ∧ True ∧ True ∧ ((0 : Int) ≤ [(1 : Int)].getD (Int.toNat (0 : Int)) (0 : Int) ∧
  [(1 : Int)].getD (Int.toNat (0 : Int)) (0 : Int) < (↑(2 : Nat) : Int)) ∧ True ∧ ((0 : Int) ≤ (0 : Int) ∧ (0 : Int) < (1 : Int)) ∧ True ∧ True ∧ True ∧ True ∧
  True ∧ True ∧ ((0 : Int) ≤ (1 : Int) ∧ (1 : Int) < (↑(2 : Nat) : Int)) ∧ True ∧ ((0 : Int) ≤ (0 : Int) ∧ (0 : Int) < (↑(2 : Nat) : Int)) ∧ (∃ (l : List Int), [O.d (D.v (Value.int IntKind.i64 (10 : Int))), O.d (D.ints IntKind.u8 [(98 : Int)])] = [O.d (D.v (Value.int IntKind.i64 (10 : Int))), O.d (D.ints IntKind.u8 l)] ∧
  sm l.length) ∧ True ∧ True ∧ True ∧ ((0 : Int) ≤ (1 : Int) ∧ (1 : Int) < (↑(2 : Nat) : Int)) ∧ (∃ (l : List Int), [O.d (D.v (Value.int IntKind.i64 (10 : Int))), O.d (D.ints IntKind.u8 [(114 : Int), (105 : Int), (103 : Int), (104 : Int), (116 : Int)])] = [O.d (D.v (Value.int IntKind.i64 (10 : Int))), O.d (D.ints IntKind.u8 l)] ∧
  sm l.length) ∧ True ∧ True ∧ True ∧ (∃ (p : Int), [O.d (D.ints IntKind.i64 [(0 : Int)])] = [O.d (D.ints IntKind.i64 [p])]) ∧ True ∧ True ∧ True ∧ True ∧
  ((0 : Int) ≤ (0 : Int) ∧ (0 : Int) < (1 : Int)) ∧ True ∧ True ∧ True ∧ True ∧ ((0 : Int) ≤ [(0 : Int)].getD (Int.toNat (0 : Int)) (0 : Int) ∧ [(0 : Int)].getD (Int.toNat (0 : Int)) (0 : Int) < (↑(2 : Nat) : Int)) ∧
  True ∧ ((0 : Int) ≤ (0 : Int) ∧ (0 : Int) < (1 : Int)) ∧ True ∧ True ∧ True ∧ True ∧ True ∧ True ∧ (0 : Int) = (0 : Int) ∧ true = true := by
  repeat' (first | exact trivial | exact ⟨_, rfl⟩ | exact ⟨_, rfl, by unfold sm; decide⟩ | refine And.intro ?_ ?_ | decide)
set_option maxRecDepth 100000 in
theorem ok14 : FnIs Tryz.prog 14 soundC0 := by
  refine fnIs (C := (ctrsJ Tryz.prog a2 iA8 12)) (by kernel_rfl) (cokJ (by kernel_rfl) a2_ok iA8_ok) Tryz.func14 (code := code14) (by kernel_rfl) (by kernel_rfl) ?_
  rintro a rfl
  exact ⟨anns [] [1, 13, 19] [(5, 3), (8, 3), (17, 2)], kcast (vc14) (by kernel_rfl)⟩

end Go.ZR

set_option maxRecDepth 100000
namespace Go.ZM
open Go.Z
def helloBytes : List Int := [1, 0, 0, 56, 128, 0, 1, 1, 0, 0, 0, 0, 0, 0, 0, 0, 0, 0, 0, 0,
  0, 0, 1, 8, 64, 0, 0, 9, 97, 0, 0, 0, 0, 0, 1, 40, 64, 0, 0, 12, 108, 101, 102, 116, 0, 0, 1, 22, 64, 0, 0, 12, 0, 0, 0, 5]
def orF (fl : Int → Bool) (ks : List Int) : List Nat → Int
  | [] => 0
  | b :: g => if fl (ks.getD b 0) = true then bits BinOp.or IntKind.u8 (orF fl ks g) (ks.getD b 0) else orF fl ks g
def leftN (g : List Nat) : Nat := ([0, 1, 2, 3].filter fun b : Nat => !(g.any b.beq)).length
theorem leftN_lt {g : List Nat} {j : Nat} (hj : j < 4) (h : (g.any j.beq) = false) : leftN (j :: g) < leftN g := by
  have h4 : j = 0 ∨ j = 1 ∨ j = 2 ∨ j = 3 := by omega
  unfold leftN
  simp only [List.any_cons]
  cases h0 : g.any (Nat.beq 0) <;> cases h1 : g.any (Nat.beq 1) <;> cases h2 : g.any (Nat.beq 2) <;> cases h3 : g.any (Nat.beq 3) <;>
    rcases h4 with rfl | rfl | rfl | rfl <;> first
      | (rw [h] at h0; cases h0; done)
      | (rw [h] at h1; cases h1; done)
      | (rw [h] at h2; cases h2; done)
      | (rw [h] at h3; cases h3; done)
      | simp [List.filter, h0, h1, h2, h3, Nat.beq]
theorem any_mem {g : List Nat} {j : Nat} : g.any j.beq = true ↔ j ∈ g := by
  rw [List.any_eq_true]
  constructor
  · rintro ⟨x, hx, he⟩
    rw [Nat.eq_of_beq_eq_true he]; exact hx
  · intro h
    exact ⟨j, h, Nat.beq_refl j⟩
theorem or_128 : bits BinOp.or IntKind.u8 128 128 = 128 ∧ bits BinOp.or IntKind.u8 0 128 = 128 := by decide
theorem orF_one {ks : List Int} {i : Nat} (h : ∀ b, b < 4 → (ks.getD b 0 = 128 ↔ b = i)) : ∀ (g : List Nat), (∀ b, b ∈ g → b < 4) → orF (fun k => decide (k = (128 : Int))) ks g = if i ∈ g then 128 else 0
  | [], _ => by
    rw [if_neg (by simp)]
    rfl
  | b :: g, hb => by
    have ih := orF_one h g (fun c hc => hb c (List.mem_cons_of_mem _ hc))
    have e : orF (fun k => decide (k = (128 : Int))) ks (b :: g) = if decide (ks.getD b 0 = 128) = true then bits BinOp.or IntKind.u8 (orF (fun k => decide (k = (128 : Int))) ks g) (ks.getD b 0) else orF (fun k => decide (k = (128 : Int))) ks g := rfl
    rw [e, ih]
    by_cases hi : b = i
    · have h2 := (h b (hb b (by simp))).2 hi
      have hm : i ∈ b :: g := by rw [hi]; simp
      rw [if_pos (decide_eq_true h2), h2, if_pos hm]
      split
      · exact or_128.1
      · exact or_128.2
    · have h2 : ¬ ks.getD b 0 = 128 := fun e => hi ((h b (hb b (by simp))).1 e)
      rw [if_neg (by simpa using h2)]
      have : (i ∈ b :: g) ↔ i ∈ g := by simp [Ne.symm hi]
      simp only [this]
def helloCell : Nat → Nat → D := gridD 5 [.v (.int .u32 264), .v (.int .u32 0), .v (.bool true), .v (.bool false), .ints .u8 [97],
  .v (.int .u32 296), .v (.int .u32 0), .v (.bool true), .v (.bool false), .ints .u8 [108, 101, 102, 116],
  .v (.int .u32 278), .v (.int .u32 0), .v (.bool true), .v (.bool false), .ints .u8 [0, 0, 0, 5]]
end Go.ZM
namespace Go.ZR
open Go.Z Go.ZM Go.Proofs
def flagAnn (fl : Int → Bool) (ks : List Int) : LoopAnn where
  γ := List Nat
  pre := fun seen => ∀ b, b ∈ seen → b < 4
  μ := fun seen => leftN seen
  items := fun seen => [(7, .c (iO .u8 (orF fl ks seen))), (41, .it seen)]
def helloD : D := .recs 5 3 (gridD 5 [.v (.int .u32 264), .v (.int .u32 0), .v (.bool true), .v (.bool false), .ints .u8 [97],
  .v (.int .u32 296), .v (.int .u32 0), .v (.bool true), .v (.bool false), .ints .u8 [108, 101, 102, 116],
  .v (.int .u32 278), .v (.int .u32 0), .v (.bool true), .v (.bool false), .ints .u8 [0, 0, 0, 5]])
def helloO : O := .agg [bO true, bO false, bO false, bO false, iO .u32 257, iO .u32 0, iO .u32 0, iO .u32 0, .d (.recs 5 3 helloCell)]
def putMC : Ctr := nC 1 false (fun a => a = [helloO]) fun _ => [bsN helloBytes, iO .i64 0]
def workC : Ctr where
  own := []
  pre := fun a => ∃ l : List Int, a = [bsO l] ∧ sm l.length
  res := fun a => [bsO ([100, 105, 100, 32] ++ vl (dO (at_ a 0)))]
  upd := fun _ => [.any]
  ro := true
  quiet := false
def ansC : Ctr := nC 0 false (fun a => a = []) fun _ => [bO true]
def bitC : Ctr := nC 2 true (fun a => ∃ (y : Bool) (b : Int), a = [bO y, iO .u8 b]) fun a => [iO .u8 (cond (vb (dO (at_ a 0))) (vi (dO (at_ a 1))) 0)]
def headC : Ctr := nC 1 true (fun a => ∃ y : Bool, a = [bO y]) fun a => [iO .i64 (cond (vb (dO (at_ a 0))) 12 8)]
def avpC0 : Ctr := nC 1 false (fun a => a = [.d helloD]) fun _ => [bsN (helloBytes.drop 20), iO .i64 0]
def a3 : List (Nat × Ctr) := [(99, putC), (165, paddedC), (197, padC), (163, bitC), (164, headC)]
def a3b : List (Nat × Ctr) := [(112, avpC0), (99, putC)]
def a4 : List (Nat × Ctr) := [(14, soundC0), (117, putMC), (99, putC)]
def helloF (f : Nat → Nat → D) : O := .agg [bO true, bO false, bO false, bO false, iO .u32 257, iO .u32 0, iO .u32 0, iO .u32 0, .d (.recs 5 3 f)]
def putWC : Ctr := nC 1 false (fun a => ∃ f, a = [helloF f] ∧ ∀ i, i < 3 → ∀ j, j < 5 → f i j = helloCell i j) fun _ => [bsN helloBytes, iO .i64 0]
def a5 : List (Nat × Ctr) := [(14, soundC0), (117, putWC), (99, putC), (37, workC)]
end Go.ZR

namespace Go.ZR
open Go.Proofs
open Go.Z Go.ZM Go.RowKit
set_option maxRecDepth 100000
noncomputable def iA10c162 : Code := match Tryz.f162.body with | some c => c | none => .skip
noncomputable def iA10_162 : InlF := ⟨iA10c162, Tryz.f162.ntmps, Tryz.f162.results.toList, anns []⟩
noncomputable def iA10 : List (Nat × InlF) := [(162, iA10_162)]
theorem iA10_ok : InlsOk Tryz.prog iA10 := ⟨inlOk Tryz.func162 (by kernel_rfl) (by kernel_rfl), trivial⟩
noncomputable def code163 : Code := match Tryz.f163.body with | some c => c | none => .skip
set_option maxHeartbeats 4000000 in
theorem vc163 : ∀ (y : Bool) (b : Int), sw y ((b = bif y then b else (0 : Int)) ∧ true = true) (((0 : Int) = bif y then b else (0 : Int)) ∧ true = true) := by
  intro y b
  cases y
  · exact ⟨rfl, rfl⟩
  · exact ⟨rfl, rfl⟩
set_option maxRecDepth 100000 in
theorem ok163 : FnIs Tryz.prog 163 bitC := by
  refine fnIs (C := (ctrs c0)) (by kernel_rfl) c0_ok Tryz.func163 (code := code163) (by kernel_rfl) (by kernel_rfl) ?_
  rintro a ⟨y, b, rfl⟩
  exact ⟨anns [], kcast (vc163 y b) (by kernel_rfl)⟩

noncomputable def code164 : Code := match Tryz.f164.body with | some c => c | none => .skip
set_option maxHeartbeats 4000000 in
theorem vc164 : ∀ (y : Bool), sw y (((12 : Int) = bif y then (12 : Int) else (8 : Int)) ∧ true = true) (((8 : Int) = bif y then (12 : Int) else (8 : Int)) ∧ true = true) := by
  intro y
  cases y
  · exact ⟨rfl, rfl⟩
  · exact ⟨rfl, rfl⟩
set_option maxRecDepth 100000 in
theorem ok164 : FnIs Tryz.prog 164 headC := by
  refine fnIs (C := (ctrs c0)) (by kernel_rfl) c0_ok Tryz.func164 (code := code164) (by kernel_rfl) (by kernel_rfl) ?_
  rintro a ⟨y, rfl⟩
  exact ⟨anns [], kcast (vc164 y) (by kernel_rfl)⟩

theorem a3_ok : COk Tryz.prog (ctrs a3) := cok_cons ok99 (cok_cons ok165 (cok_cons ok197 (cok_cons ok163 (cok_cons ok164 cok_nil))))

noncomputable def code112 : Code := match Tryz.f112.body with | some c => c | none => .skip
set_option maxHeartbeats 4000000 in
theorem vc112 : True ∧ True ∧ ((0 : Int) ≤ (0 : Int) ∧ (0 : Int) < (3 : Int)) ∧ True ∧ (∃ (y : Bool), [O.d (D.v (Value.bool false))] = [O.d (D.v (Value.bool y))]) ∧ True ∧
  (∃ (n : Nat), [O.d (D.v (Value.int IntKind.i64 (1 : Int)))] = [O.d (D.v (Value.int IntKind.i64 (↑n : Int)))] ∧ n ≤ (2199023255552 : Nat)) ∧ True ∧ True ∧
  True ∧ True ∧ True ∧ ((0 : Int) ≤ (1 : Int) ∧ (1 : Int) < (3 : Int)) ∧ True ∧ (∃ (y : Bool), [O.d (D.v (Value.bool false))] = [O.d (D.v (Value.bool y))]) ∧
  True ∧ (∃ (n : Nat), [O.d (D.v (Value.int IntKind.i64 (4 : Int)))] = [O.d (D.v (Value.int IntKind.i64 (↑n : Int)))] ∧ n ≤ (2199023255552 : Nat)) ∧ True ∧
  True ∧ True ∧ True ∧ True ∧ ((0 : Int) ≤ (2 : Int) ∧ (2 : Int) < (3 : Int)) ∧ True ∧ (∃ (y : Bool), [O.d (D.v (Value.bool false))] = [O.d (D.v (Value.bool y))]) ∧
  True ∧ (∃ (n : Nat), [O.d (D.v (Value.int IntKind.i64 (4 : Int)))] = [O.d (D.v (Value.int IntKind.i64 (↑n : Int)))] ∧ n ≤ (2199023255552 : Nat)) ∧ True ∧
  True ∧ True ∧ True ∧ True ∧ True ∧ ((0 : Int) ≤ (0 : Int) ∧ (0 : Int) < (3 : Int)) ∧ True ∧ ((∃ (b : List Int), ∃ (n : Int), ∃ (k : Nat), [O.d (D.ints IntKind.u8 []), O.d (D.v (Value.int IntKind.u64 (264 : Int))), O.d (D.v (Value.int IntKind.i64 (4 : Int)))] = [O.d (D.ints IntKind.u8 b), O.d (D.v (Value.int IntKind.u64 n)), O.d (D.v (Value.int IntKind.i64 (↑k : Int)))] ∧
  sm b.length ∧ (1 : Nat) ≤ k ∧ k ≤ (8 : Nat)) ∧ ((∃ (y : Bool), ∃ (b : Int), [O.d (D.v (Value.bool false)), O.d (D.v (Value.int IntKind.u8 (128 : Int)))] = [O.d (D.v (Value.bool y)), O.d (D.v (Value.int IntKind.u8 b))]) ∧
  ((∃ (y : Bool), ∃ (b : Int), [O.d (D.v (Value.bool true)), O.d (D.v (Value.int IntKind.u8 (64 : Int)))] = [O.d (D.v (Value.bool y)), O.d (D.v (Value.int IntKind.u8 b))]) ∧
  True ∧ ((∃ (y : Bool), ∃ (b : Int), [O.d (D.v (Value.bool false)), O.d (D.v (Value.int IntKind.u8 (32 : Int)))] = [O.d (D.v (Value.bool y)), O.d (D.v (Value.int IntKind.u8 b))]) ∧
  True ∧ ((True ∧ (([] ++ be (264 : Int) (Int.toNat (4 : Int))).length + (1 : Nat)) * Tryz.prog.types[(5 : Nat)].bytes ≤ (140737488355328 : Nat) ∧ ((∃ (y : Bool), [O.d (D.v (Value.bool false))] = [O.d (D.v (Value.bool y))]) ∧
  True ∧ ((∃ (b : List Int), ∃ (n : Int), ∃ (k : Nat), [O.d (D.ints IntKind.u8 ([] ++ be (264 : Int) (Int.toNat (4 : Int)) ++ [bits BinOp.or IntKind.u8 (bits BinOp.or IntKind.u8 (0 : Int) (64 : Int)) (0 : Int)])), O.d (D.v (Value.int IntKind.u64 (9 : Int))), O.d (D.v (Value.int IntKind.i64 (3 : Int)))] = [O.d (D.ints IntKind.u8 b), O.d (D.v (Value.int IntKind.u64 n)), O.d (D.v (Value.int IntKind.i64 (↑k : Int)))] ∧
  sm b.length ∧ (1 : Nat) ≤ k ∧ k ≤ (8 : Nat)) ∧ (∃ (l : List Int), [O.d (D.ints IntKind.u8 [(97 : Int)])] = [O.d (D.ints IntKind.u8 l)] ∧ sm l.length) ∧
  True ∧ (([] ++ be (264 : Int) (Int.toNat (4 : Int)) ++ [bits BinOp.or IntKind.u8 (bits BinOp.or IntKind.u8 (0 : Int) (64 : Int)) (0 : Int)] ++ be (9 : Int) (Int.toNat (3 : Int))).length + (padF [(97 : Int)]).length) * Tryz.prog.types[(5 : Nat)].bytes ≤ (140737488355328 : Nat) ∧
  True ∧ True ∧ ((0 : Int) ≤ (1 : Int) ∧ (1 : Int) < (3 : Int)) ∧ True ∧ ((∃ (b : List Int), ∃ (n : Int), ∃ (k : Nat), [O.d (D.ints IntKind.u8 ([] ++ be (264 : Int) (Int.toNat (4 : Int)) ++ [bits BinOp.or IntKind.u8 (bits BinOp.or IntKind.u8 (0 : Int) (64 : Int)) (0 : Int)] ++ be (9 : Int) (Int.toNat (3 : Int)) ++ padF [(97 : Int)])), O.d (D.v (Value.int IntKind.u64 (296 : Int))), O.d (D.v (Value.int IntKind.i64 (4 : Int)))] = [O.d (D.ints IntKind.u8 b), O.d (D.v (Value.int IntKind.u64 n)), O.d (D.v (Value.int IntKind.i64 (↑k : Int)))] ∧
  sm b.length ∧ (1 : Nat) ≤ k ∧ k ≤ (8 : Nat)) ∧ ((∃ (y : Bool), ∃ (b : Int), [O.d (D.v (Value.bool false)), O.d (D.v (Value.int IntKind.u8 (128 : Int)))] = [O.d (D.v (Value.bool y)), O.d (D.v (Value.int IntKind.u8 b))]) ∧
  ((∃ (y : Bool), ∃ (b : Int), [O.d (D.v (Value.bool true)), O.d (D.v (Value.int IntKind.u8 (64 : Int)))] = [O.d (D.v (Value.bool y)), O.d (D.v (Value.int IntKind.u8 b))]) ∧
  True ∧ ((∃ (y : Bool), ∃ (b : Int), [O.d (D.v (Value.bool false)), O.d (D.v (Value.int IntKind.u8 (32 : Int)))] = [O.d (D.v (Value.bool y)), O.d (D.v (Value.int IntKind.u8 b))]) ∧
  True ∧ ((True ∧ (([] ++ be (264 : Int) (Int.toNat (4 : Int)) ++ [bits BinOp.or IntKind.u8 (bits BinOp.or IntKind.u8 (0 : Int) (64 : Int)) (0 : Int)] ++ be (9 : Int) (Int.toNat (3 : Int)) ++ padF [(97 : Int)] ++ be (296 : Int) (Int.toNat (4 : Int))).length + (1 : Nat)) * Tryz.prog.types[(5 : Nat)].bytes ≤ (140737488355328 : Nat) ∧
  ((∃ (y : Bool), [O.d (D.v (Value.bool false))] = [O.d (D.v (Value.bool y))]) ∧ True ∧ ((∃ (b : List Int), ∃ (n : Int), ∃ (k : Nat), [O.d (D.ints IntKind.u8 ([] ++ be (264 : Int) (Int.toNat (4 : Int)) ++ [bits BinOp.or IntKind.u8 (bits BinOp.or IntKind.u8 (0 : Int) (64 : Int)) (0 : Int)] ++ be (9 : Int) (Int.toNat (3 : Int)) ++ padF [(97 : Int)] ++ be (296 : Int) (Int.toNat (4 : Int)) ++ [bits BinOp.or IntKind.u8 (bits BinOp.or IntKind.u8 (0 : Int) (64 : Int)) (0 : Int)])), O.d (D.v (Value.int IntKind.u64 (12 : Int))), O.d (D.v (Value.int IntKind.i64 (3 : Int)))] = [O.d (D.ints IntKind.u8 b), O.d (D.v (Value.int IntKind.u64 n)), O.d (D.v (Value.int IntKind.i64 (↑k : Int)))] ∧
  sm b.length ∧ (1 : Nat) ≤ k ∧ k ≤ (8 : Nat)) ∧ (∃ (l : List Int), [O.d (D.ints IntKind.u8 [(108 : Int), (101 : Int), (102 : Int), (116 : Int)])] = [O.d (D.ints IntKind.u8 l)] ∧
  sm l.length) ∧ True ∧ (([] ++ be (264 : Int) (Int.toNat (4 : Int)) ++ [bits BinOp.or IntKind.u8 (bits BinOp.or IntKind.u8 (0 : Int) (64 : Int)) (0 : Int)] ++ be (9 : Int) (Int.toNat (3 : Int)) ++ padF [(97 : Int)] ++ be (296 : Int) (Int.toNat (4 : Int)) ++ [bits BinOp.or IntKind.u8 (bits BinOp.or IntKind.u8 (0 : Int) (64 : Int)) (0 : Int)] ++ be (12 : Int) (Int.toNat (3 : Int))).length + (padF [(108 : Int), (101 : Int), (102 : Int), (116 : Int)]).length) * Tryz.prog.types[(5 : Nat)].bytes ≤ (140737488355328 : Nat) ∧
  True ∧ True ∧ ((0 : Int) ≤ (2 : Int) ∧ (2 : Int) < (3 : Int)) ∧ True ∧ ((∃ (b : List Int), ∃ (n : Int), ∃ (k : Nat), [O.d (D.ints IntKind.u8 ([] ++ be (264 : Int) (Int.toNat (4 : Int)) ++ [bits BinOp.or IntKind.u8 (bits BinOp.or IntKind.u8 (0 : Int) (64 : Int)) (0 : Int)] ++ be (9 : Int) (Int.toNat (3 : Int)) ++ padF [(97 : Int)] ++ be (296 : Int) (Int.toNat (4 : Int)) ++ [bits BinOp.or IntKind.u8 (bits BinOp.or IntKind.u8 (0 : Int) (64 : Int)) (0 : Int)] ++ be (12 : Int) (Int.toNat (3 : Int)) ++ padF [(108 : Int), (101 : Int), (102 : Int), (116 : Int)])), O.d (D.v (Value.int IntKind.u64 (278 : Int))), O.d (D.v (Value.int IntKind.i64 (4 : Int)))] = [O.d (D.ints IntKind.u8 b), O.d (D.v (Value.int IntKind.u64 n)), O.d (D.v (Value.int IntKind.i64 (↑k : Int)))] ∧
  sm b.length ∧ (1 : Nat) ≤ k ∧ k ≤ (8 : Nat)) ∧ ((∃ (y : Bool), ∃ (b : Int), [O.d (D.v (Value.bool false)), O.d (D.v (Value.int IntKind.u8 (128 : Int)))] = [O.d (D.v (Value.bool y)), O.d (D.v (Value.int IntKind.u8 b))]) ∧
  ((∃ (y : Bool), ∃ (b : Int), [O.d (D.v (Value.bool true)), O.d (D.v (Value.int IntKind.u8 (64 : Int)))] = [O.d (D.v (Value.bool y)), O.d (D.v (Value.int IntKind.u8 b))]) ∧
  True ∧ ((∃ (y : Bool), ∃ (b : Int), [O.d (D.v (Value.bool false)), O.d (D.v (Value.int IntKind.u8 (32 : Int)))] = [O.d (D.v (Value.bool y)), O.d (D.v (Value.int IntKind.u8 b))]) ∧
  True ∧ ((True ∧ (([] ++ be (264 : Int) (Int.toNat (4 : Int)) ++ [bits BinOp.or IntKind.u8 (bits BinOp.or IntKind.u8 (0 : Int) (64 : Int)) (0 : Int)] ++ be (9 : Int) (Int.toNat (3 : Int)) ++ padF [(97 : Int)] ++ be (296 : Int) (Int.toNat (4 : Int)) ++ [bits BinOp.or IntKind.u8 (bits BinOp.or IntKind.u8 (0 : Int) (64 : Int)) (0 : Int)] ++ be (12 : Int) (Int.toNat (3 : Int)) ++ padF [(108 : Int), (101 : Int), (102 : Int), (116 : Int)] ++ be (278 : Int) (Int.toNat (4 : Int))).length + (1 : Nat)) * Tryz.prog.types[(5 : Nat)].bytes ≤ (140737488355328 : Nat) ∧
  ((∃ (y : Bool), [O.d (D.v (Value.bool false))] = [O.d (D.v (Value.bool y))]) ∧ True ∧ ((∃ (b : List Int), ∃ (n : Int), ∃ (k : Nat), [O.d (D.ints IntKind.u8 ([] ++ be (264 : Int) (Int.toNat (4 : Int)) ++ [bits BinOp.or IntKind.u8 (bits BinOp.or IntKind.u8 (0 : Int) (64 : Int)) (0 : Int)] ++ be (9 : Int) (Int.toNat (3 : Int)) ++ padF [(97 : Int)] ++ be (296 : Int) (Int.toNat (4 : Int)) ++ [bits BinOp.or IntKind.u8 (bits BinOp.or IntKind.u8 (0 : Int) (64 : Int)) (0 : Int)] ++ be (12 : Int) (Int.toNat (3 : Int)) ++ padF [(108 : Int), (101 : Int), (102 : Int), (116 : Int)] ++ be (278 : Int) (Int.toNat (4 : Int)) ++ [bits BinOp.or IntKind.u8 (bits BinOp.or IntKind.u8 (0 : Int) (64 : Int)) (0 : Int)])), O.d (D.v (Value.int IntKind.u64 (12 : Int))), O.d (D.v (Value.int IntKind.i64 (3 : Int)))] = [O.d (D.ints IntKind.u8 b), O.d (D.v (Value.int IntKind.u64 n)), O.d (D.v (Value.int IntKind.i64 (↑k : Int)))] ∧
  sm b.length ∧ (1 : Nat) ≤ k ∧ k ≤ (8 : Nat)) ∧ (∃ (l : List Int), [O.d (D.ints IntKind.u8 [(0 : Int), (0 : Int), (0 : Int), (5 : Int)])] = [O.d (D.ints IntKind.u8 l)] ∧
  sm l.length) ∧ True ∧ (([] ++ be (264 : Int) (Int.toNat (4 : Int)) ++ [bits BinOp.or IntKind.u8 (bits BinOp.or IntKind.u8 (0 : Int) (64 : Int)) (0 : Int)] ++ be (9 : Int) (Int.toNat (3 : Int)) ++ padF [(97 : Int)] ++ be (296 : Int) (Int.toNat (4 : Int)) ++ [bits BinOp.or IntKind.u8 (bits BinOp.or IntKind.u8 (0 : Int) (64 : Int)) (0 : Int)] ++ be (12 : Int) (Int.toNat (3 : Int)) ++ padF [(108 : Int), (101 : Int), (102 : Int), (116 : Int)] ++ be (278 : Int) (Int.toNat (4 : Int)) ++ [bits BinOp.or IntKind.u8 (bits BinOp.or IntKind.u8 (0 : Int) (64 : Int)) (0 : Int)] ++ be (12 : Int) (Int.toNat (3 : Int))).length + (padF [(0 : Int), (0 : Int), (0 : Int), (5 : Int)]).length) * Tryz.prog.types[(5 : Nat)].bytes ≤ (140737488355328 : Nat) ∧
  True ∧ True ∧ [] ++ be (264 : Int) (Int.toNat (4 : Int)) ++ [bits BinOp.or IntKind.u8 (bits BinOp.or IntKind.u8 (0 : Int) (64 : Int)) (0 : Int)] ++ be (9 : Int) (Int.toNat (3 : Int)) ++ padF [(97 : Int)] ++ be (296 : Int) (Int.toNat (4 : Int)) ++ [bits BinOp.or IntKind.u8 (bits BinOp.or IntKind.u8 (0 : Int) (64 : Int)) (0 : Int)] ++ be (12 : Int) (Int.toNat (3 : Int)) ++ padF [(108 : Int), (101 : Int), (102 : Int), (116 : Int)] ++ be (278 : Int) (Int.toNat (4 : Int)) ++ [bits BinOp.or IntKind.u8 (bits BinOp.or IntKind.u8 (0 : Int) (64 : Int)) (0 : Int)] ++ be (12 : Int) (Int.toNat (3 : Int)) ++ padF [(0 : Int), (0 : Int), (0 : Int), (5 : Int)] = [(0 : Int), (0 : Int), (1 : Int), (8 : Int), (64 : Int), (0 : Int), (0 : Int), (9 : Int), (97 : Int), (0 : Int), (0 : Int), (0 : Int), (0 : Int), (0 : Int), (1 : Int), (40 : Int), (64 : Int), (0 : Int), (0 : Int), (12 : Int), (108 : Int), (101 : Int), (102 : Int), (116 : Int), (0 : Int), (0 : Int), (1 : Int), (22 : Int), (64 : Int), (0 : Int), (0 : Int), (12 : Int), (0 : Int), (0 : Int), (0 : Int), (5 : Int)] ∧
  (0 : Int) = (0 : Int) ∧ true = true) ∧ True) ∧ True) ∧ True) ∧ True) ∧ True) ∧ True) ∧ True) ∧ True) ∧ True) ∧ True) ∧ True) ∧ True) ∧ True) ∧ True) ∧ True) ∧
  True) ∧ True) ∧ True) ∧ True) ∧ True) ∧ True) ∧ True) ∧ True) ∧ True := by
  repeat' (first | exact trivial | exact ⟨_, rfl⟩ | exact ⟨_, _, rfl⟩ | exact ⟨_, rfl, by unfold sm; decide⟩ | exact ⟨1, rfl, by decide⟩ | exact ⟨4, rfl, by decide⟩ | exact ⟨_, _, 3, rfl, by unfold sm; decide, by decide, by decide⟩ | exact ⟨_, _, 4, rfl, by unfold sm; decide, by decide, by decide⟩ | refine And.intro ?_ ?_ | (rw [bytes5]; decide) | decide)
set_option maxRecDepth 100000 in
theorem ok112 : FnIs Tryz.prog 112 avpC0 := by
  refine fnIs (C := (ctrsJ Tryz.prog a3 iA10 3)) (by kernel_rfl) (cokJ (by kernel_rfl) a3_ok iA10_ok) Tryz.func112 (code := code112) (by kernel_rfl) (by kernel_rfl) ?_
  rintro a rfl
  exact ⟨anns [] [] [(5, 4), (13, 4)], kcast (vc112) (by kernel_rfl)⟩

theorem a3b_ok : COk Tryz.prog (ctrs a3b) := cok_cons ok112 (cok_cons ok99 cok_nil)

end Go.ZR
