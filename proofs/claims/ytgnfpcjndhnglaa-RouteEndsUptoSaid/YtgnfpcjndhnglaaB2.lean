/- The ways of requests: B2 -/
import Derived.Test.YtgnfpcjndhnglaaRows
import Derived.Test.YtgnfpcjndhnglaaB1
import Derived.Test.YtgnfpcjndhnglaaB0
namespace Go.YR
open Go.Proofs
open Go.Y Go.YM Go.RowKit
theorem b1_ok : COk Try.prog (ctrs b1) := cok_cons ok41 (cok_cons ok37 (cok_cons ok29 cok_nil))
noncomputable def code39 : Code := match Try.f39.body with | some c => c | none => .skip
theorem vc39 : ∀ (l : List Int) (x : Int), small l.length → (∃ (l_1 : List Int), ∃ (x_1 : Int), [O.d (D.ints IntKind.i64 l), O.d (D.v (Value.int IntKind.i64 x))] = [O.d (D.ints IntKind.i64 l_1), O.d (D.v (Value.int IntKind.i64 x_1))] ∧
  small l_1.length) ∧ True ∧ decide ((0 : Int) ≤ idxF (vl (D.ints IntKind.i64 l)) (vi (D.v (Value.int IntKind.i64 x)))) = inF (vl (D.ints IntKind.i64 l)) (vi (D.v (Value.int IntKind.i64 x))) ∧
  (true && true) = true := by
  simp only [true_and, and_true, implies_true, vl, vi]
  intro l x h
  exact ⟨⟨l, x, rfl, h⟩, rfl, rfl⟩
theorem ok39 : FnIs Try.prog 39 inC := by
  refine fnIs (C := ctrs b1) (by kernel_rfl) b1_ok Try.func39 (code := code39) (by kernel_rfl) (by kernel_rfl) ?_
  rintro a ⟨l, x, rfl, h⟩
  exact ⟨anns [], kcast (vc39 l x h) (by kernel_rfl)⟩

noncomputable def code36 : Code := match Try.f36.body with | some c => c | none => .skip
theorem vc36 : ∀ (l : List AvpR) (c : Int), small l.length → ∃ (g0 : Nat), (g0 ≤ l.length ∧ ∀ (j : Nat), j < g0 → isAvp c (l.getD j noAvp) = false) ∧ (0 : Int) = (↑g0 : Int) ∧
  (true && true) = true ∧ ∀ (g : Nat), (g ≤ l.length ∧ ∀ (j : Nat), j < g → isAvp c (l.getD j noAvp) = false) → True ∧ (decide ((↑g : Int) < (↑l.length : Int)) = true →
  ((0 : Int) ≤ (↑g : Int) ∧ (↑g : Int) < (↑l.length : Int)) ∧ (∃ (x : AvpR), ∃ (c_1 : Int), [O.agg [O.d (D.v (Value.int IntKind.u32 (l.getD (↑g : Int).toNat noAvp).code)), O.d (D.v (Value.int IntKind.u32 (l.getD (↑g : Int).toNat noAvp).vendor)), O.d (D.v (Value.bool (l.getD (↑g : Int).toNat noAvp).must)), O.d (D.v (Value.bool (l.getD (↑g : Int).toNat noAvp).prot)), O.d (D.ints IntKind.u8 (l.getD (↑g : Int).toNat noAvp).data)], O.d (D.ptr (27 : Nat) (1 : Nat) fun (i : Nat) => [D.v (Value.int IntKind.u32 c)].getD i (D.v undef))] = [O.agg [O.d (D.v (Value.int IntKind.u32 x.code)), O.d (D.v (Value.int IntKind.u32 x.vendor)), O.d (D.v (Value.bool x.must)), O.d (D.v (Value.bool x.prot)), O.d (D.ints IntKind.u8 x.data)], O.d (D.ptr (27 : Nat) (1 : Nat) fun (i : Nat) => [D.v (Value.int IntKind.u32 c_1)].getD i (D.v undef))]) ∧
  (isAvp c (AvpR.mk (vi (D.v (Value.int IntKind.u32 (l.getD (↑g : Int).toNat noAvp).code))) (vi (D.v (Value.int IntKind.u32 (l.getD (↑g : Int).toNat noAvp).vendor))) (vb (D.v (Value.bool (l.getD (↑g : Int).toNat noAvp).must))) (vb (D.v (Value.bool (l.getD (↑g : Int).toNat noAvp).prot))) (vl (D.ints IntKind.u8 (l.getD (↑g : Int).toNat noAvp).data))) = true →
  (↑g : Int) = idxP (isAvp c) (avpsOf (D.recs (5 : Nat) l.length (avpCell l))) ∧ (true && true) = true) ∧ (isAvp c (AvpR.mk (vi (D.v (Value.int IntKind.u32 (l.getD (↑g : Int).toNat noAvp).code))) (vi (D.v (Value.int IntKind.u32 (l.getD (↑g : Int).toNat noAvp).vendor))) (vb (D.v (Value.bool (l.getD (↑g : Int).toNat noAvp).must))) (vb (D.v (Value.bool (l.getD (↑g : Int).toNat noAvp).prot))) (vl (D.ints IntKind.u8 (l.getD (↑g : Int).toNat noAvp).data))) = false →
  True ∧ ∃ (g' : Nat), (g' ≤ l.length ∧ ∀ (j : Nat), j < g' → isAvp c (l.getD j noAvp) = false) ∧ l.length - g' < l.length - g ∧ (IntKind.i64.wrap ((↑g : Int) + (1 : Int)) = (↑g' : Int) ∧
  (true && true && true) = true) ∧ (some (SV.c (Value.int IntKind.i64 (↑l.length : Int))) = some (SV.c (Value.int IntKind.i64 (↑l.length : Int))) ∧ some (SV.a (0 : Nat)) = some (SV.a (0 : Nat)) ∧
  some (SV.a (0 : Nat)) = some (SV.a (0 : Nat)) ∧ some (SV.f (37 : Nat) (0 : Nat) [SV.p (1 : Nat) (0 : Nat)]) = some (SV.f (37 : Nat) (0 : Nat) [SV.p (1 : Nat) (0 : Nat)]) ∧
  True) ∧ some (R.rblk (27 : Nat) [SV.c (Value.int IntKind.u32 c)]) = some (R.rblk (27 : Nat) [SV.c (Value.int IntKind.u32 c)]) ∧ some (R.ro (D.recs (5 : Nat) l.length (avpCell l))) = some (R.ro (D.recs (5 : Nat) l.length (avpCell l))) ∧
  True)) ∧ (decide ((↑g : Int) < (↑l.length : Int)) = false → (-1 : Int) = idxP (isAvp c) (avpsOf (D.recs (5 : Nat) l.length (avpCell l))) ∧ (true && true) = true) := by
  simp only [true_and, and_true, implies_true, allT, Bool.and_self, Bool.not_false, List.mem_singleton, List.mem_cons, List.not_mem_nil, or_false, forall_eq, Int.toNat_natCast, decide_eq_true_eq, decide_eq_false_iff_not, Int.ofNat_lt, vi, vb, vl, avpsOf_avps]
  intro l c h
  refine ⟨0, ⟨Nat.zero_le _, fun j hj => absurd hj (by omega)⟩, rfl, ?_⟩
  rintro g ⟨h1, h2⟩
  unfold small at h
  exact ⟨fun hc => ⟨by omega, ⟨l.getD g noAvp, c, rfl⟩, fun he => (idx_hit h2 hc he).symm, fun he => ⟨g + 1, ⟨hc, next h2 he⟩, by omega, wrap_nat (by omega)⟩⟩, fun hc => (idx_miss (d := noAvp) (fun j hj => h2 j (by omega))).symm⟩
theorem ok36 : FnIs Try.prog 36 idxAvpC := by
  refine fnIs (C := ctrs b1) (by kernel_rfl) b1_ok Try.func36 (code := code36) (by kernel_rfl) (by kernel_rfl) ?_
  rintro a ⟨l, c, rfl, h⟩
  exact ⟨anns [(2, idxAnn 8 (isAvp c) l noAvp)], kcast (vc36 l c h) (by kernel_rfl)⟩

noncomputable def code28 : Code := match Try.f28.body with | some c => c | none => .skip
theorem vc28 : ∀ (l : List RtR) (s : List Int), small l.length → ∃ (g0 : Nat), (g0 ≤ l.length ∧ ∀ (j : Nat), j < g0 → decide ((l.getD j noRt).realm = bstr s) = false) ∧
  (0 : Int) = (↑g0 : Int) ∧ (true && true) = true ∧ ∀ (g : Nat), (g ≤ l.length ∧ ∀ (j : Nat), j < g → decide ((l.getD j noRt).realm = bstr s) = false) → True ∧
  (decide ((↑g : Int) < (↑l.length : Int)) = true → ((0 : Int) ≤ (↑g : Int) ∧ (↑g : Int) < (↑l.length : Int)) ∧ (∃ (x : RtR), ∃ (s_1 : List Int), [O.agg [O.d (D.v (Value.string (l.getD (↑g : Int).toNat noRt).realm)), O.d (D.ints IntKind.i64 (l.getD (↑g : Int).toNat noRt).via)], O.d (D.ptr (36 : Nat) (1 : Nat) fun (i : Nat) => [D.ints IntKind.u8 s].getD i (D.v undef))] = [O.agg [O.d (D.v (Value.string x.realm)), O.d (D.ints IntKind.i64 x.via)], O.d (D.ptr (36 : Nat) (1 : Nat) fun (i : Nat) => [D.ints IntKind.u8 s_1].getD i (D.v undef))]) ∧
  (decide ((l.getD (↑g : Int).toNat noRt).1 = bstr s) = true → (↑g : Int) = idxP (fun (r : RtR) => decide (r.realm = bstr s)) (rtsOf (D.recs (2 : Nat) l.length (rtCell l))) ∧
  (true && true) = true) ∧ (decide ((l.getD (↑g : Int).toNat noRt).1 = bstr s) = false → True ∧ ∃ (g' : Nat), (g' ≤ l.length ∧ ∀ (j : Nat), j < g' → decide ((l.getD j noRt).realm = bstr s) = false) ∧
  l.length - g' < l.length - g ∧ (IntKind.i64.wrap ((↑g : Int) + (1 : Int)) = (↑g' : Int) ∧ (true && true && true) = true) ∧ (some (SV.c (Value.int IntKind.i64 (↑l.length : Int))) = some (SV.c (Value.int IntKind.i64 (↑l.length : Int))) ∧
  some (SV.a (0 : Nat)) = some (SV.a (0 : Nat)) ∧ some (SV.a (0 : Nat)) = some (SV.a (0 : Nat)) ∧ some (SV.f (29 : Nat) (0 : Nat) [SV.p (2 : Nat) (0 : Nat)]) = some (SV.f (29 : Nat) (0 : Nat) [SV.p (2 : Nat) (0 : Nat)]) ∧
  True) ∧ some (R.rblk (36 : Nat) [SV.a (1 : Nat)]) = some (R.rblk (36 : Nat) [SV.a (1 : Nat)]) ∧ some (R.ro (D.ints IntKind.u8 s)) = some (R.ro (D.ints IntKind.u8 s)) ∧
  some (R.ro (D.recs (2 : Nat) l.length (rtCell l))) = some (R.ro (D.recs (2 : Nat) l.length (rtCell l))) ∧ True)) ∧ (decide ((↑g : Int) < (↑l.length : Int)) = false →
  (-1 : Int) = idxP (fun (r : RtR) => decide (r.realm = bstr s)) (rtsOf (D.recs (2 : Nat) l.length (rtCell l))) ∧ (true && true) = true) := by
  simp only [true_and, and_true, implies_true, allT, Bool.and_self, Bool.not_false, List.mem_singleton, List.mem_cons, List.not_mem_nil, or_false, forall_eq, Int.toNat_natCast, Int.ofNat_lt, vi, vb, vl, rtsOf_rts]
  intro l s h
  refine ⟨0, ⟨Nat.zero_le _, fun j hj => absurd hj (by omega)⟩, rfl, ?_⟩
  rintro g ⟨h1, h2⟩
  unfold small at h
  refine ⟨fun hc => ?_, fun hc => ?_⟩
  · have hc := of_decide_eq_true hc
    exact ⟨by omega, ⟨l.getD g noRt, s, rfl⟩, fun he => (idx_hit (p := fun r => decide (r.realm = bstr s)) h2 hc he).symm, fun he => ⟨g + 1, ⟨hc, next h2 he⟩, by omega, wrap_nat (by omega)⟩⟩
  · have hc := of_decide_eq_false hc
    exact (idx_miss (p := fun r => decide (r.realm = bstr s)) (d := noRt) (fun j hj => h2 j (by omega))).symm
theorem ok28 : FnIs Try.prog 28 idxRtC := by
  refine fnIs (C := ctrs b1) (by kernel_rfl) b1_ok Try.func28 (code := code28) (by kernel_rfl) (by kernel_rfl) ?_
  rintro a ⟨l, s, rfl, h⟩
  exact ⟨anns [(2, idxAnn 8 (fun r => decide (r.realm = bstr s)) l noRt)], kcast (vc28 l s h) (by kernel_rfl)⟩

end Go.YR
