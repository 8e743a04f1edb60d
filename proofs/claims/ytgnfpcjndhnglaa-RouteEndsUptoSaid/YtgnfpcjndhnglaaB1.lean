/- The ways of requests: B1 -/
import Derived.Test.YtgnfpcjndhnglaaRows
import Derived.Test.YtgnfpcjndhnglaaB0
namespace Go.YR
open Go.Proofs
open Go.Y Go.YM Go.RowKit
theorem b0_ok : COk Try.prog (ctrs b0) := cok_nil
theorem bytes_dec (a b : ByteArray) : decide (a.data.toList = b.data.toList) = decide (a = b) := by
  congr 1
  apply propext
  constructor
  · intro h; cases a; cases b; simp only [ByteArray.mk.injEq]; exact Array.ext' h
  · rintro rfl; rfl
theorem any_hit {α : Type} {p : α → Bool} {l : List α} {d : α} {i : Nat} (hi : i < l.length) (hp : p (l.getD i d) = true) : l.any p = true := by
  rw [List.any_eq_true]
  exact ⟨l[i], List.getElem_mem hi, by simpa [List.getD, List.getElem?_eq_getElem hi] using hp⟩
theorem any_miss {α : Type} {p : α → Bool} {l : List α} {d : α} (h : ∀ j, j < l.length → p (l.getD j d) = false) : l.any p = false := by
  rw [List.any_eq_false]
  intro x hx
  obtain ⟨j, hj, rfl⟩ := List.mem_iff_getElem.1 hx
  have := h j hj
  simpa [List.getD, List.getElem?_eq_getElem hj] using this
theorem find_hit {α : Type} {p : α → Bool} {l : List α} {d : α} {i : Nat} (h : ∀ j, j < i → p (l.getD j d) = false) (hi : i < l.length) (hp : p (l.getD i d) = true) : l.find? p = some (l.getD i d) := by
  have e : l.getD i d = l[i] := by simp [List.getD, List.getElem?_eq_getElem hi]
  rw [e] at hp ⊢
  rw [List.find?_eq_some_iff_getElem]
  refine ⟨hp, i, hi, rfl, fun j hj => ?_⟩
  have := h j hj
  simp [List.getD, List.getElem?_eq_getElem (show j < l.length by omega)] at this
  simp [this]
theorem find_miss {α : Type} {p : α → Bool} {l : List α} {d : α} (h : ∀ j, j < l.length → p (l.getD j d) = false) : l.find? p = none := by
  rw [List.find?_eq_none]
  intro x hx
  obtain ⟨j, hj, rfl⟩ := List.mem_iff_getElem.1 hx
  have := h j hj
  simpa [List.getD, List.getElem?_eq_getElem hj] using this
theorem wrap_nat {g : Nat} (h : g < 1048577) : IntKind.i64.wrap ((g : Int) + 1) = ((g + 1 : Nat) : Int) := by
  rw [IntWalk.i64_in _ (by omega)]; rfl
theorem next {g : Nat} {P : Nat → Bool} (h : ∀ j, j < g → P j = false) (hg : P g = false) : ∀ j, j < g + 1 → P j = false := fun j hj => by
  by_cases e : j = g
  · subst e; exact hg
  · exact h j (by omega)
theorem getD_mem {α : Type} {l : List α} {d : α} {i : Nat} (h : i < l.length) : l.getD i d ∈ l := by
  rw [show l.getD i d = l[i] by simp [List.getD, List.getElem?_eq_getElem h]]; exact List.getElem_mem h
noncomputable def code41 : Code := match Try.f41.body with | some c => c | none => .skip
theorem vc41 : ∀ (l : List Int) (x : Int), small l.length → ∃ (g0 : Nat), (g0 ≤ l.length ∧ ∀ (j : Nat), j < g0 → decide (x = l.getD j (0 : Int)) = false) ∧ (0 : Int) = (↑g0 : Int) ∧
  (true && true) = true ∧ ∀ (g : Nat), (g ≤ l.length ∧ ∀ (j : Nat), j < g → decide (x = l.getD j (0 : Int)) = false) → True ∧ (decide ((↑g : Int) < (↑l.length : Int)) = true →
  ((0 : Int) ≤ (↑g : Int) ∧ (↑g : Int) < (↑l.length : Int)) ∧ True ∧ (decide (x = l.getD (↑g : Int).toNat (0 : Int)) = true → (↑g : Int) = idxF (vl (D.ints IntKind.i64 l)) (vi (D.v (Value.int IntKind.i64 x))) ∧
  (true && true) = true) ∧ (decide (x = l.getD (↑g : Int).toNat (0 : Int)) = false → True ∧ ∃ (g' : Nat), (g' ≤ l.length ∧ ∀ (j : Nat), j < g' → decide (x = l.getD j (0 : Int)) = false) ∧
  l.length - g' < l.length - g ∧ (IntKind.i64.wrap ((↑g : Int) + (1 : Int)) = (↑g' : Int) ∧ (true && true && true) = true) ∧ (some (SV.c (Value.int IntKind.i64 (↑l.length : Int))) = some (SV.c (Value.int IntKind.i64 (↑l.length : Int))) ∧
  some (SV.a (0 : Nat)) = some (SV.a (0 : Nat)) ∧ some (SV.a (0 : Nat)) = some (SV.a (0 : Nat)) ∧ some (SV.c (Value.int IntKind.i64 x)) = some (SV.c (Value.int IntKind.i64 x)) ∧
  True) ∧ some (R.ro (D.ints IntKind.i64 l)) = some (R.ro (D.ints IntKind.i64 l)) ∧ True)) ∧ (decide ((↑g : Int) < (↑l.length : Int)) = false → (-1 : Int) = idxF (vl (D.ints IntKind.i64 l)) (vi (D.v (Value.int IntKind.i64 x))) ∧
  (true && true) = true) := by
  simp only [true_and, and_true, implies_true, allT, Bool.and_self, Bool.not_false, List.mem_singleton, List.mem_cons, List.not_mem_nil, or_false, forall_eq, Int.toNat_natCast, decide_eq_true_eq, decide_eq_false_iff_not, Int.ofNat_lt, vl, vi]
  intro l x h
  refine ⟨0, ⟨Nat.zero_le _, fun j hj => absurd hj (by omega)⟩, rfl, ?_⟩
  rintro g ⟨h1, h2⟩
  unfold small at h
  refine ⟨fun hc => ⟨by omega, fun he => (idx_hit (p := fun y => decide (x = y)) (d := 0) (fun j hj => decide_eq_false (h2 j hj)) hc (decide_eq_true he)).symm, fun he => ⟨g + 1, ⟨hc, fun j hj => ?_⟩, by omega, wrap_nat (by omega)⟩⟩, fun hc => (idx_miss (p := fun y => decide (x = y)) (d := 0) (fun j hj => decide_eq_false (h2 j (by omega)))).symm⟩
  by_cases e : j = g
  · subst e; exact he
  · exact h2 j (by omega)
theorem ok41 : FnIs Try.prog 41 indexC := by
  refine fnIs (C := ctrs b0) (by kernel_rfl) b0_ok Try.func41 (code := code41) (by kernel_rfl) (by kernel_rfl) ?_
  rintro a ⟨l, x, rfl, h⟩
  exact ⟨anns [(2, idxAnn 8 (fun y => decide (x = y)) l 0)], kcast (vc41 l x h) (by kernel_rfl)⟩

noncomputable def code37 : Code := match Try.f37.body with | some c => c | none => .skip
theorem vc37 : ∀ (x : AvpR) (c : Int), True ∧ (allT [decide (x.code = c)] → SV.p (2 : Nat) (1 : Nat) = SV.p (2 : Nat) (1 : Nat)) ∧ (allT [decide (x.code = c)] → [decide (x.code = c)] = [decide (x.code = c)] ∧
  SV.c (Value.int IntKind.u32 x.vendor) = SV.c (Value.int IntKind.u32 x.vendor)) ∧ (allT [decide (x.code = c)] → [decide (x.code = c)] = [decide (x.code = c)] ∧
  True ∧ SV.c (Value.bool (decide (x.vendor = (0 : Int)))) = SV.c (Value.bool (decide (x.vendor = (0 : Int))))) ∧ [decide (x.code = c)] = [decide (x.code = c)] ∧
  (decide (x.code = c) && decide (x.vendor = (0 : Int))) = isAvp c (AvpR.mk (vi (D.v (Value.int IntKind.u32 x.code))) (vi (D.v (Value.int IntKind.u32 x.vendor))) (vb (D.v (Value.bool x.must))) (vb (D.v (Value.bool x.prot))) (vl (D.ints IntKind.u8 x.data))) ∧
  (true && true) = true := by
  simp only [true_and, and_true, implies_true, allT, Bool.and_self, Bool.not_false, List.mem_singleton, List.mem_cons, List.not_mem_nil, or_false, forall_eq, vi, vb, vl, isAvp]
  intro x c; rfl
theorem ok37 : FnIs Try.prog 37 isAvpC := by
  refine fnIs (C := ctrs b0) (by kernel_rfl) b0_ok Try.func37 (code := code37) (by kernel_rfl) (by kernel_rfl) ?_
  rintro a ⟨x, c, rfl⟩
  exact ⟨anns [], kcast (vc37 x c) (by kernel_rfl)⟩

noncomputable def code29 : Code := match Try.f29.body with | some c => c | none => .skip
theorem vc29 : ∀ (x : RtR) (s : List Int), True ∧ decide (x.realm.data.toList = (bstr s).data.toList) = decide (x.1 = bstr s) ∧ (true && true) = true := by
  simp only [true_and, bytes_dec]
  intro x s; rfl
theorem ok29 : FnIs Try.prog 29 isRtC := by
  refine fnIs (C := ctrs b0) (by kernel_rfl) b0_ok Try.func29 (code := code29) (by kernel_rfl) (by kernel_rfl) ?_
  rintro a ⟨x, s, rfl⟩
  exact ⟨anns [], kcast (vc29 x s) (by kernel_rfl)⟩

noncomputable def code16 : Code := match Try.f16.body with | some c => c | none => .skip
theorem vc16 : ∀ (l : List Int) (x : Int), small l.length → ∃ (g0 : Nat), (g0 ≤ l.length ∧ ∀ (j : Nat), j < g0 → decide (x = l.getD j (0 : Int)) = false) ∧ (0 : Int) = (↑g0 : Int) ∧
  (true && true) = true ∧ ∀ (g : Nat), (g ≤ l.length ∧ ∀ (j : Nat), j < g → decide (x = l.getD j (0 : Int)) = false) → True ∧ (decide ((↑g : Int) < (↑l.length : Int)) = true →
  ((0 : Int) ≤ (↑g : Int) ∧ (↑g : Int) < (↑l.length : Int)) ∧ True ∧ (decide (l.getD (↑g : Int).toNat (0 : Int) = x) = true → true = inF (vl (D.ints IntKind.i64 l)) (vi (D.v (Value.int IntKind.i64 x))) ∧
  (true && true) = true) ∧ (decide (l.getD (↑g : Int).toNat (0 : Int) = x) = false → True ∧ ∃ (g' : Nat), (g' ≤ l.length ∧ ∀ (j : Nat), j < g' → decide (x = l.getD j (0 : Int)) = false) ∧
  l.length - g' < l.length - g ∧ (IntKind.i64.wrap ((↑g : Int) + (1 : Int)) = (↑g' : Int) ∧ (true && true && true) = true) ∧ (some (SV.a (0 : Nat)) = some (SV.a (0 : Nat)) ∧
  some (SV.c (Value.int IntKind.i64 x)) = some (SV.c (Value.int IntKind.i64 x)) ∧ True) ∧ some (R.ro (D.ints IntKind.i64 l)) = some (R.ro (D.ints IntKind.i64 l)) ∧
  True)) ∧ (decide ((↑g : Int) < (↑l.length : Int)) = false → false = inF (vl (D.ints IntKind.i64 l)) (vi (D.v (Value.int IntKind.i64 x))) ∧ (true && true) = true) := by
  simp only [true_and, and_true, implies_true, allT, Bool.and_self, Bool.not_false, List.mem_singleton, List.mem_cons, List.not_mem_nil, or_false, forall_eq, Int.toNat_natCast, decide_eq_true_eq, decide_eq_false_iff_not, Int.ofNat_lt, vl, vi]
  intro l x h
  refine ⟨0, ⟨Nat.zero_le _, fun j hj => absurd hj (by omega)⟩, rfl, ?_⟩
  rintro g ⟨h1, h2⟩
  unfold small at h
  refine ⟨fun hc => ⟨by omega, fun he => ?_, fun he => ⟨g + 1, ⟨hc, fun j hj => ?_⟩, by omega, wrap_nat (by omega)⟩⟩, fun hc => ?_⟩
  · simp [inF, idxF, idx_hit (p := fun y => decide (x = y)) (d := 0) (fun j hj => decide_eq_false (h2 j hj)) hc (decide_eq_true he.symm)]
  · by_cases e : j = g
    · subst e; exact fun e => he e.symm
    · exact h2 j (by omega)
  · simp [inF, idxF, idx_miss (p := fun y => decide (x = y)) (d := 0) (l := l) (fun j hj => decide_eq_false (h2 j (by omega)))]
theorem ok16 : FnIs Try.prog 16 inC := by
  refine fnIs (C := ctrs b0) (by kernel_rfl) b0_ok Try.func16 (code := code16) (by kernel_rfl) (by kernel_rfl) ?_
  rintro a ⟨l, x, rfl, h⟩
  exact ⟨anns [(2, idxAnn 5 (fun y => decide (x = y)) l 0)], kcast (vc16 l x h) (by kernel_rfl)⟩

noncomputable def code38 : Code := match Try.f38.body with | some c => c | none => .skip
theorem vc38 : ∀ (l : List Int), small l.length → ∀ (t : Bool), (t = true → l.length = (0 : Nat)) → (t = true → vl (D.ints IntKind.u8 l) = [] ∧ (true && true) = true) ∧
  (t = false → True ∧ ((0 : Nat) + l.length) * Try.prog.types[(5 : Nat)].bytes ≤ (140737488355328 : Nat) ∧ [] ++ l = vl (D.ints IntKind.u8 l) ∧ (!false && true && true) = true) := by
  simp only [true_and, and_true, implies_true, Bool.and_self, Bool.not_false, vl, List.nil_append]
  intro l h t ht
  unfold small at h
  refine ⟨fun e => List.length_eq_zero_iff.1 (ht e), fun _ => ?_⟩
  have : Try.prog.types[(5 : Nat)].bytes = 1 := by kernel_rfl
  rw [this]; omega
theorem ok38 : FnIs Try.prog 38 cloneC := by
  refine fnIs (C := ctrs b0) (by kernel_rfl) b0_ok Try.func38 (code := code38) (by kernel_rfl) (by kernel_rfl) ?_
  rintro a ⟨l, rfl, h⟩
  exact ⟨anns [], kcast (vc38 l h) (by kernel_rfl)⟩

noncomputable def code27 : Code := match Try.f27.body with | some c => c | none => .skip
theorem vc27 : ∀ (s : ScR) (n : Int), small s.names.length → True ∧ (allT [!decide (n < (0 : Int))] → SV.c (Value.int IntKind.i64 n) = SV.c (Value.int IntKind.i64 n)) ∧
  (allT [!decide (n < (0 : Int))] → SV.p (5 : Nat) (0 : Nat) = SV.p (5 : Nat) (0 : Nat)) ∧ (allT [!decide (n < (0 : Int))] → [!decide (n < (0 : Int))] = [!decide (n < (0 : Int))] ∧
  SV.p (5 : Nat) (0 : Nat) = SV.p (5 : Nat) (0 : Nat)) ∧ (allT [!decide (n < (0 : Int))] → [!decide (n < (0 : Int))] = [!decide (n < (0 : Int))] ∧ SV.p (5 : Nat) (5 : Nat) = SV.p (5 : Nat) (5 : Nat)) ∧
  (allT [!decide (n < (0 : Int))] → [!decide (n < (0 : Int))] = [!decide (n < (0 : Int))] ∧ SV.a (2 : Nat) = SV.a (2 : Nat)) ∧ (allT [!decide (n < (0 : Int))] →
  [!decide (n < (0 : Int))] = [!decide (n < (0 : Int))] ∧ SV.c (Value.int IntKind.i64 (↑s.names.length : Int)) = SV.c (Value.int IntKind.i64 (↑s.names.length : Int))) ∧
  (allT [!decide (n < (0 : Int))] → [!decide (n < (0 : Int))] = [!decide (n < (0 : Int))] ∧ [!decide (n < (0 : Int))] = [!decide (n < (0 : Int))] ∧ True ∧
  SV.c (Value.bool (decide ((↑s.names.length : Int) ≤ n))) = SV.c (Value.bool (decide ((↑s.names.length : Int) ≤ n)))) ∧ [!decide (n < (0 : Int))] = [!decide (n < (0 : Int))] ∧
  ((decide (n < (0 : Int)) || decide ((↑s.names.length : Int) ≤ n)) = true → ByteArray.mk #[] = nameF (scOf (D.ptr (64 : Nat) (9 : Nat) fun (i : Nat) => [D.v (Value.string s.n.host), D.v (Value.string s.n.realm), D.v (Value.bool s.n.serves), D.ints IntKind.i64 s.n.peers, D.recs (2 : Nat) s.n.routes.length (rtCell s.n.routes), D.recs (1 : Nat) s.names.length (strCell s.names), D.ints IntKind.i64 s.up, D.v (Value.int IntKind.i64 s.fr), D.map (Col.strs s.ks) (Col.bools s.vs)].getD i (D.v undef))).names (vi (D.v (Value.int IntKind.i64 n))) ∧
  (true && true) = true) ∧ ((decide (n < (0 : Int)) || decide ((↑s.names.length : Int) ≤ n)) = false → ((0 : Int) ≤ n ∧ n < (↑s.names.length : Int)) ∧ s.names.getD n.toNat noStr = nameF (scOf (D.ptr (64 : Nat) (9 : Nat) fun (i : Nat) => [D.v (Value.string s.n.host), D.v (Value.string s.n.realm), D.v (Value.bool s.n.serves), D.ints IntKind.i64 s.n.peers, D.recs (2 : Nat) s.n.routes.length (rtCell s.n.routes), D.recs (1 : Nat) s.names.length (strCell s.names), D.ints IntKind.i64 s.up, D.v (Value.int IntKind.i64 s.fr), D.map (Col.strs s.ks) (Col.bools s.vs)].getD i (D.v undef))).names (vi (D.v (Value.int IntKind.i64 n))) ∧
  (true && true) = true) := by
  simp only [true_and, and_true, implies_true, allT, Bool.and_self, Bool.not_false, List.mem_singleton, List.mem_cons, List.not_mem_nil, or_false, forall_eq, Int.toNat_natCast, vi, List.getD_cons_succ, List.getD_cons_zero, strsOf_strs, scOf_sc]
  intro s n h
  refine ⟨fun e => ?_, fun e => ?_⟩
  · simp only [Bool.or_eq_true, decide_eq_true_eq] at e
    rw [nameF, if_pos (by simpa using e)]; rfl
  · simp only [Bool.or_eq_false_iff, decide_eq_false_iff_not] at e
    refine ⟨by omega, ?_⟩
    rw [nameF, if_neg (by omega)]
theorem ok27 : FnIs Try.prog 27 nameC := by
  refine fnIs (C := ctrs b0) (by kernel_rfl) b0_ok Try.func27 (code := code27) (by kernel_rfl) (by kernel_rfl) ?_
  rintro a ⟨s, n, rfl, h⟩
  exact ⟨anns [], kcast (vc27 s n h) (by kernel_rfl)⟩

noncomputable def code30 : Code := match Try.f30.body with | some c => c | none => .skip
theorem vc30 : ∀ (m : MsgR) (s : ByteArray), okAvps m.avps → ∃ (g0 : Nat), (g0 ≤ m.avps.length ∧ ∀ (j : Nat), j < g0 → (isAvp (282 : Int) (m.avps.getD j noAvp) && decide (bstr (m.avps.getD j noAvp).data = s)) = false) ∧
  (0 : Int) = (↑g0 : Int) ∧ (true && true) = true ∧ ∀ (g : Nat), (g ≤ m.avps.length ∧ ∀ (j : Nat), j < g → (isAvp (282 : Int) (m.avps.getD j noAvp) && decide (bstr (m.avps.getD j noAvp).data = s)) = false) →
  True ∧ (decide ((↑g : Int) < (↑m.avps.length : Int)) = true → ((0 : Int) ≤ (↑g : Int) ∧ (↑g : Int) < (↑m.avps.length : Int)) ∧ True ∧ (allT [decide ((m.avps.getD (↑g : Int).toNat noAvp).code = (282 : Int))] →
  SV.p (3 : Nat) (1 : Nat) = SV.p (3 : Nat) (1 : Nat)) ∧ (allT [decide ((m.avps.getD (↑g : Int).toNat noAvp).code = (282 : Int))] → [decide ((m.avps.getD (↑g : Int).toNat noAvp).code = (282 : Int))] = [decide ((m.avps.getD (↑g : Int).toNat noAvp).code = (282 : Int))] ∧
  SV.c (Value.int IntKind.u32 (m.avps.getD (↑g : Int).toNat noAvp).vendor) = SV.c (Value.int IntKind.u32 (m.avps.getD (↑g : Int).toNat noAvp).vendor)) ∧ (allT [decide ((m.avps.getD (↑g : Int).toNat noAvp).code = (282 : Int))] →
  [decide ((m.avps.getD (↑g : Int).toNat noAvp).code = (282 : Int))] = [decide ((m.avps.getD (↑g : Int).toNat noAvp).code = (282 : Int))] ∧ True ∧ SV.c (Value.bool (decide ((m.avps.getD (↑g : Int).toNat noAvp).vendor = (0 : Int)))) = SV.c (Value.bool (decide ((m.avps.getD (↑g : Int).toNat noAvp).vendor = (0 : Int))))) ∧
  [decide ((m.avps.getD (↑g : Int).toNat noAvp).code = (282 : Int))] = [decide ((m.avps.getD (↑g : Int).toNat noAvp).code = (282 : Int))] ∧ (allT [decide ((m.avps.getD (↑g : Int).toNat noAvp).code = (282 : Int)) && decide ((m.avps.getD (↑g : Int).toNat noAvp).vendor = (0 : Int))] →
  SV.p (3 : Nat) (4 : Nat) = SV.p (3 : Nat) (4 : Nat)) ∧ (allT [decide ((m.avps.getD (↑g : Int).toNat noAvp).code = (282 : Int)) && decide ((m.avps.getD (↑g : Int).toNat noAvp).vendor = (0 : Int))] →
  [decide ((m.avps.getD (↑g : Int).toNat noAvp).code = (282 : Int)) && decide ((m.avps.getD (↑g : Int).toNat noAvp).vendor = (0 : Int))] = [decide ((m.avps.getD (↑g : Int).toNat noAvp).code = (282 : Int)) && decide ((m.avps.getD (↑g : Int).toNat noAvp).vendor = (0 : Int))] ∧
  SV.a (2 : Nat) = SV.a (2 : Nat)) ∧ (allT [decide ((m.avps.getD (↑g : Int).toNat noAvp).code = (282 : Int)) && decide ((m.avps.getD (↑g : Int).toNat noAvp).vendor = (0 : Int))] →
  [decide ((m.avps.getD (↑g : Int).toNat noAvp).code = (282 : Int)) && decide ((m.avps.getD (↑g : Int).toNat noAvp).vendor = (0 : Int))] = [decide ((m.avps.getD (↑g : Int).toNat noAvp).code = (282 : Int)) && decide ((m.avps.getD (↑g : Int).toNat noAvp).vendor = (0 : Int))] ∧
  SV.c (Value.string (bstr (m.avps.getD (↑g : Int).toNat noAvp).data)) = SV.c (Value.string (bstr (m.avps.getD (↑g : Int).toNat noAvp).data))) ∧ (allT [decide ((m.avps.getD (↑g : Int).toNat noAvp).code = (282 : Int)) && decide ((m.avps.getD (↑g : Int).toNat noAvp).vendor = (0 : Int))] →
  SV.c (Value.string s) = SV.c (Value.string s)) ∧ (allT [decide ((m.avps.getD (↑g : Int).toNat noAvp).code = (282 : Int)) && decide ((m.avps.getD (↑g : Int).toNat noAvp).vendor = (0 : Int))] →
  [decide ((m.avps.getD (↑g : Int).toNat noAvp).code = (282 : Int)) && decide ((m.avps.getD (↑g : Int).toNat noAvp).vendor = (0 : Int))] = [decide ((m.avps.getD (↑g : Int).toNat noAvp).code = (282 : Int)) && decide ((m.avps.getD (↑g : Int).toNat noAvp).vendor = (0 : Int))] ∧
  [decide ((m.avps.getD (↑g : Int).toNat noAvp).code = (282 : Int)) && decide ((m.avps.getD (↑g : Int).toNat noAvp).vendor = (0 : Int))] = [decide ((m.avps.getD (↑g : Int).toNat noAvp).code = (282 : Int)) && decide ((m.avps.getD (↑g : Int).toNat noAvp).vendor = (0 : Int))] ∧
  True ∧ SV.c (Value.bool (decide ((bstr (m.avps.getD (↑g : Int).toNat noAvp).data).data.toList = s.data.toList))) = SV.c (Value.bool (decide ((bstr (m.avps.getD (↑g : Int).toNat noAvp).data).data.toList = s.data.toList)))) ∧
  [decide ((m.avps.getD (↑g : Int).toNat noAvp).code = (282 : Int)) && decide ((m.avps.getD (↑g : Int).toNat noAvp).vendor = (0 : Int))] = [decide ((m.avps.getD (↑g : Int).toNat noAvp).code = (282 : Int)) && decide ((m.avps.getD (↑g : Int).toNat noAvp).vendor = (0 : Int))] ∧
  ((decide ((m.avps.getD (↑g : Int).toNat noAvp).code = (282 : Int)) && decide ((m.avps.getD (↑g : Int).toNat noAvp).vendor = (0 : Int)) && decide ((bstr (m.avps.getD (↑g : Int).toNat noAvp).data).data.toList = s.data.toList)) = true →
  true = passF (avpsOf (D.recs (5 : Nat) m.avps.length (avpCell m.avps))) (vs (D.v (Value.string s))) ∧ (true && true) = true) ∧ ((decide ((m.avps.getD (↑g : Int).toNat noAvp).code = (282 : Int)) && decide ((m.avps.getD (↑g : Int).toNat noAvp).vendor = (0 : Int)) && decide ((bstr (m.avps.getD (↑g : Int).toNat noAvp).data).data.toList = s.data.toList)) = false →
  True ∧ ∃ (g' : Nat), (g' ≤ m.avps.length ∧ ∀ (j : Nat), j < g' → (isAvp (282 : Int) (m.avps.getD j noAvp) && decide (bstr (m.avps.getD j noAvp).data = s)) = false) ∧
  m.avps.length - g' < m.avps.length - g ∧ (IntKind.i64.wrap ((↑g : Int) + (1 : Int)) = (↑g' : Int) ∧ (true && true && true) = true) ∧ (some (SV.p (1 : Nat) (0 : Nat)) = some (SV.p (1 : Nat) (0 : Nat)) ∧
  some (SV.agg [SV.c (Value.bool m.b0), SV.c (Value.bool m.b1), SV.c (Value.bool m.b2), SV.c (Value.bool m.b3), SV.c (Value.int IntKind.u32 m.n0), SV.c (Value.int IntKind.u32 m.n1), SV.c (Value.int IntKind.u32 m.n2), SV.c (Value.int IntKind.u32 m.n3), SV.a (0 : Nat)]) = some (SV.agg [SV.c (Value.bool m.b0), SV.c (Value.bool m.b1), SV.c (Value.bool m.b2), SV.c (Value.bool m.b3), SV.c (Value.int IntKind.u32 m.n0), SV.c (Value.int IntKind.u32 m.n1), SV.c (Value.int IntKind.u32 m.n2), SV.c (Value.int IntKind.u32 m.n3), SV.a (0 : Nat)]) ∧
  some (SV.c (Value.string s)) = some (SV.c (Value.string s)) ∧ True) ∧ some (R.blk (30 : Nat) [SV.c (Value.bool m.b0), SV.c (Value.bool m.b1), SV.c (Value.bool m.b2), SV.c (Value.bool m.b3), SV.c (Value.int IntKind.u32 m.n0), SV.c (Value.int IntKind.u32 m.n1), SV.c (Value.int IntKind.u32 m.n2), SV.c (Value.int IntKind.u32 m.n3), SV.a (0 : Nat)]) = some (R.blk (30 : Nat) [SV.c (Value.bool m.b0), SV.c (Value.bool m.b1), SV.c (Value.bool m.b2), SV.c (Value.bool m.b3), SV.c (Value.int IntKind.u32 m.n0), SV.c (Value.int IntKind.u32 m.n1), SV.c (Value.int IntKind.u32 m.n2), SV.c (Value.int IntKind.u32 m.n3), SV.a (0 : Nat)]) ∧
  some (R.ro (D.recs (5 : Nat) m.avps.length (avpCell m.avps))) = some (R.ro (D.recs (5 : Nat) m.avps.length (avpCell m.avps))) ∧ True)) ∧ (decide ((↑g : Int) < (↑m.avps.length : Int)) = false →
  false = passF (avpsOf (D.recs (5 : Nat) m.avps.length (avpCell m.avps))) (vs (D.v (Value.string s))) ∧ (true && true) = true) := by
  simp only [true_and, and_true, implies_true, allT, Bool.and_self, Bool.not_false, List.mem_singleton, List.mem_cons, List.not_mem_nil, or_false, forall_eq, Int.toNat_natCast, decide_eq_true_eq, decide_eq_false_iff_not, Int.ofNat_lt, vs, avpsOf_avps, bytes_dec]
  intro m s h
  refine ⟨0, ⟨Nat.zero_le _, fun j hj => absurd hj (by omega)⟩, rfl, ?_⟩
  rintro g ⟨h1, h2⟩
  have h3 := h.1
  unfold small at h3
  refine ⟨fun hc => ⟨by omega, fun he => ?_, fun he => ⟨g + 1, ⟨hc, next h2 he⟩, by omega, wrap_nat (by omega)⟩⟩, fun hc => ?_⟩
  · exact (any_hit (p := fun a => isAvp 282 a && decide (bstr a.data = s)) (d := noAvp) hc he).symm
  · exact (any_miss (p := fun a => isAvp 282 a && decide (bstr a.data = s)) (d := noAvp) (fun j hj => h2 j (by omega))).symm
theorem ok30 : FnIs Try.prog 30 passC := by
  refine fnIs (C := ctrs b0) (by kernel_rfl) b0_ok Try.func30 (code := code30) (by kernel_rfl) (by kernel_rfl) ?_
  rintro a ⟨m, s, rfl, h⟩
  exact ⟨anns [(2, idxAnn 5 (fun a => isAvp 282 a && decide (bstr a.data = s)) m.avps noAvp)], kcast (vc30 m s h) (by kernel_rfl)⟩

noncomputable def code15 : Code := match Try.f15.body with | some c => c | none => .skip
theorem vc15 : ∀ (m : MsgR) (c : Int), okAvps m.avps → ∃ (g0 : Nat), (g0 ≤ m.avps.length ∧ ∀ (j : Nat), j < g0 → isAvp c (m.avps.getD j noAvp) = false) ∧ (0 : Int) = (↑g0 : Int) ∧
  (true && true) = true ∧ ∀ (g : Nat), (g ≤ m.avps.length ∧ ∀ (j : Nat), j < g → isAvp c (m.avps.getD j noAvp) = false) → True ∧ (decide ((↑g : Int) < (↑m.avps.length : Int)) = true →
  ((0 : Int) ≤ (↑g : Int) ∧ (↑g : Int) < (↑m.avps.length : Int)) ∧ True ∧ (allT [decide ((m.avps.getD (↑g : Int).toNat noAvp).code = c)] → SV.p (1 : Nat) (8 : Nat) = SV.p (1 : Nat) (8 : Nat)) ∧
  (allT [decide ((m.avps.getD (↑g : Int).toNat noAvp).code = c)] → [decide ((m.avps.getD (↑g : Int).toNat noAvp).code = c)] = [decide ((m.avps.getD (↑g : Int).toNat noAvp).code = c)] ∧
  SV.a (0 : Nat) = SV.a (0 : Nat)) ∧ (allT [decide ((m.avps.getD (↑g : Int).toNat noAvp).code = c)] → SV.c (Value.int IntKind.i64 (↑g : Int)) = SV.c (Value.int IntKind.i64 (↑g : Int))) ∧
  (allT [decide ((m.avps.getD (↑g : Int).toNat noAvp).code = c)] → [decide ((m.avps.getD (↑g : Int).toNat noAvp).code = c)] = [decide ((m.avps.getD (↑g : Int).toNat noAvp).code = c)] ∧
  [decide ((m.avps.getD (↑g : Int).toNat noAvp).code = c)] = [decide ((m.avps.getD (↑g : Int).toNat noAvp).code = c)] ∧ ((0 : Int) ≤ (↑g : Int) ∧ (↑g : Int) < (↑m.avps.length : Int)) ∧
  SV.e (0 : Nat) Try.prog.types[(41 : Nat)].size (↑g : Int).toNat (0 : Nat) = SV.e (0 : Nat) Try.prog.types[(41 : Nat)].size (↑g : Int).toNat (0 : Nat)) ∧
  (allT [decide ((m.avps.getD (↑g : Int).toNat noAvp).code = c)] → [decide ((m.avps.getD (↑g : Int).toNat noAvp).code = c)] = [decide ((m.avps.getD (↑g : Int).toNat noAvp).code = c)] ∧
  SV.e (0 : Nat) Try.prog.types[(41 : Nat)].size (↑g : Int).toNat (1 : Nat) = SV.e (0 : Nat) Try.prog.types[(41 : Nat)].size (↑g : Int).toNat (1 : Nat)) ∧
  (allT [decide ((m.avps.getD (↑g : Int).toNat noAvp).code = c)] → [decide ((m.avps.getD (↑g : Int).toNat noAvp).code = c)] = [decide ((m.avps.getD (↑g : Int).toNat noAvp).code = c)] ∧
  SV.c (Value.int IntKind.u32 (m.avps.getD (↑g : Int).toNat noAvp).vendor) = SV.c (Value.int IntKind.u32 (m.avps.getD (↑g : Int).toNat noAvp).vendor)) ∧ (allT [decide ((m.avps.getD (↑g : Int).toNat noAvp).code = c)] →
  [decide ((m.avps.getD (↑g : Int).toNat noAvp).code = c)] = [decide ((m.avps.getD (↑g : Int).toNat noAvp).code = c)] ∧ True ∧ SV.c (Value.bool (decide ((m.avps.getD (↑g : Int).toNat noAvp).vendor = (0 : Int)))) = SV.c (Value.bool (decide ((m.avps.getD (↑g : Int).toNat noAvp).vendor = (0 : Int))))) ∧
  [decide ((m.avps.getD (↑g : Int).toNat noAvp).code = c)] = [decide ((m.avps.getD (↑g : Int).toNat noAvp).code = c)] ∧ ((decide ((m.avps.getD (↑g : Int).toNat noAvp).code = c) && decide ((m.avps.getD (↑g : Int).toNat noAvp).vendor = (0 : Int))) = true →
  ((0 : Int) ≤ (↑g : Int) ∧ (↑g : Int) < (↑m.avps.length : Int)) ∧ True ∧ ((0 : Nat) + (m.avps.getD (↑g : Int).toNat noAvp).data.length) * Try.prog.types[(5 : Nat)].bytes ≤ (140737488355328 : Nat) ∧
  [] ++ (m.avps.getD (↑g : Int).toNat noAvp).data = (findF (avpsOf (D.recs (5 : Nat) m.avps.length (avpCell m.avps))) (vi (D.v (Value.int IntKind.u32 c)))).fst ∧
  true = (findF (avpsOf (D.recs (5 : Nat) m.avps.length (avpCell m.avps))) (vi (D.v (Value.int IntKind.u32 c)))).snd ∧ (!false && true && true) = true) ∧
  ((decide ((m.avps.getD (↑g : Int).toNat noAvp).code = c) && decide ((m.avps.getD (↑g : Int).toNat noAvp).vendor = (0 : Int))) = false → True ∧ ∃ (g' : Nat), (g' ≤ m.avps.length ∧
  ∀ (j : Nat), j < g' → isAvp c (m.avps.getD j noAvp) = false) ∧ m.avps.length - g' < m.avps.length - g ∧ (IntKind.i64.wrap ((↑g : Int) + (1 : Int)) = (↑g' : Int) ∧
  (true && true && true) = true) ∧ (some (SV.p (1 : Nat) (0 : Nat)) = some (SV.p (1 : Nat) (0 : Nat)) ∧ some (SV.agg [SV.c (Value.bool m.b0), SV.c (Value.bool m.b1), SV.c (Value.bool m.b2), SV.c (Value.bool m.b3), SV.c (Value.int IntKind.u32 m.n0), SV.c (Value.int IntKind.u32 m.n1), SV.c (Value.int IntKind.u32 m.n2), SV.c (Value.int IntKind.u32 m.n3), SV.a (0 : Nat)]) = some (SV.agg [SV.c (Value.bool m.b0), SV.c (Value.bool m.b1), SV.c (Value.bool m.b2), SV.c (Value.bool m.b3), SV.c (Value.int IntKind.u32 m.n0), SV.c (Value.int IntKind.u32 m.n1), SV.c (Value.int IntKind.u32 m.n2), SV.c (Value.int IntKind.u32 m.n3), SV.a (0 : Nat)]) ∧
  some (SV.c (Value.int IntKind.u32 c)) = some (SV.c (Value.int IntKind.u32 c)) ∧ True) ∧ some (R.blk (30 : Nat) [SV.c (Value.bool m.b0), SV.c (Value.bool m.b1), SV.c (Value.bool m.b2), SV.c (Value.bool m.b3), SV.c (Value.int IntKind.u32 m.n0), SV.c (Value.int IntKind.u32 m.n1), SV.c (Value.int IntKind.u32 m.n2), SV.c (Value.int IntKind.u32 m.n3), SV.a (0 : Nat)]) = some (R.blk (30 : Nat) [SV.c (Value.bool m.b0), SV.c (Value.bool m.b1), SV.c (Value.bool m.b2), SV.c (Value.bool m.b3), SV.c (Value.int IntKind.u32 m.n0), SV.c (Value.int IntKind.u32 m.n1), SV.c (Value.int IntKind.u32 m.n2), SV.c (Value.int IntKind.u32 m.n3), SV.a (0 : Nat)]) ∧
  some (R.ro (D.recs (5 : Nat) m.avps.length (avpCell m.avps))) = some (R.ro (D.recs (5 : Nat) m.avps.length (avpCell m.avps))) ∧ True)) ∧ (decide ((↑g : Int) < (↑m.avps.length : Int)) = false →
  (findF (avpsOf (D.recs (5 : Nat) m.avps.length (avpCell m.avps))) (vi (D.v (Value.int IntKind.u32 c)))).fst = [] ∧ false = (findF (avpsOf (D.recs (5 : Nat) m.avps.length (avpCell m.avps))) (vi (D.v (Value.int IntKind.u32 c)))).snd ∧
  (true && true) = true) := by
  simp only [true_and, and_true, implies_true, allT, Bool.and_self, Bool.not_false, List.mem_singleton, List.mem_cons, List.not_mem_nil, or_false, forall_eq, Int.toNat_natCast, decide_eq_true_eq, decide_eq_false_iff_not, Int.ofNat_lt, vi, avpsOf_avps, List.nil_append]
  intro m c h
  refine ⟨0, ⟨Nat.zero_le _, fun j hj => absurd hj (by omega)⟩, rfl, ?_⟩
  rintro g ⟨h1, h2⟩
  have h3 := h.1
  unfold small at h3
  refine ⟨fun hc => ⟨by omega, fun _ => by omega, fun he => ⟨by omega, ?_, ?_⟩, fun he => ⟨g + 1, ⟨hc, next h2 he⟩, by omega, wrap_nat (by omega)⟩⟩, fun hc => ?_⟩
  · have h4 := h.2 _ (getD_mem (d := noAvp) hc)
    unfold small at h4
    have : Try.prog.types[(5 : Nat)].bytes = 1 := by kernel_rfl
    rw [this]; omega
  · simp only [findF, find_hit h2 hc he, and_self]
  · simp only [findF, find_miss (p := isAvp c) (l := m.avps) (d := noAvp) (fun j hj => h2 j (by omega)), and_self]
theorem ok15 : FnIs Try.prog 15 findC := by
  refine fnIs (C := ctrs b0) (by kernel_rfl) b0_ok Try.func15 (code := code15) (by kernel_rfl) (by kernel_rfl) ?_
  rintro a ⟨m, c, rfl, h⟩
  exact ⟨anns [(2, idxAnn 6 (isAvp c) m.avps noAvp)], kcast (vc15 m c h) (by kernel_rfl)⟩

end Go.YR
