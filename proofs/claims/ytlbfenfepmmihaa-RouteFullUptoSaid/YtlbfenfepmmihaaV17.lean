/- Part 17 of what the closing text rests on. -/
import Derived.Test.YtlbfenfepmmihaaV16
import Derived.Test.YtlbfenfepmmihaaRows
set_option maxRecDepth 100000
namespace Go.ZM
open Go.Z
def entOf (g : Nat → D) : Ent := ⟨Go.ZR.vi (g 2), match g 13 with
  | .recs _ _ h => (match h 0 4 with
    | .ints _ [c] => c
    | _ => 0)
  | _ => 0, Go.ZR.vi (g 14), match g 13 with
  | .recs _ k _ => k
  | _ => 0⟩
def entsOf (n : Nat) (f : Nat → Nat → D) : List Ent := (List.range n).map fun i => entOf (f i)
theorem entsOf_F (l : List Ent) : entsOf l.length (entF l) = l := by
  refine List.ext_getElem (by simp [entsOf]) fun i h1 h2 => ?_
  simp only [entsOf, List.getElem_map, List.getElem_range]
  have e : entF l i = fun j => (entD l[i]).getD j (.v undef) := by
    funext j
    unfold entF
    rw [show l.getD i noEnt = l[i] from by simp [List.getD, List.getElem?_eq_getElem h2]]
  rw [e]
  rfl
end Go.ZM
namespace Go.ZR
open Go.Z Go.ZM Go.Proofs
def bkR (ks : List Int) (f : Nat → Nat → D) (last turn : Int) : O := .ptr 201 [.mapR (.ints .u32 ks) 15 f, iO .u32 last, iO .i64 turn]
def bkO (ks : List Int) (l : List Ent) (last turn : Int) : O := bkR ks (entF l) last turn
def bkK : O → List Int
  | .ptr _ (.mapR (.ints _ ks) _ _ :: _) => ks
  | _ => []
def bkE : O → List Ent
  | .ptr _ (.mapR (.ints _ ks) _ f :: _) => entsOf ks.length f
  | _ => []
def bkL : O → Int
  | .ptr _ [_, x, _] => vi (dO x)
  | _ => 0
def bkT : O → Int
  | .ptr _ [_, _, x] => vi (dO x)
  | _ => 0
def undefF : Nat → Nat → D := fun _ _ => .v undef
def wtN (t : Int) : O := wtH t (.d (.recs 5 0 undefF))
def bk0 (a : List O) : O := at_ a 0
def newBC : Ctr := { nC 0 false (fun a => a = []) (fun _ => [bkO [] [] 0 0]) with ro := true }
def addAC : Ctr where
  own := [true, true]
  pre := fun a => ∃ ks l last turn t c, a = [bkO ks l last turn, wtO t c] ∧ ks.length < 256 ∧ l.length = ks.length ∧ (0 ≤ last ∧ last < 4294967295) ∧ (last + 1) ∉ ks ∧ (0 ≤ turn ∧ turn ≤ 1099511627776)
  res := fun a => [iO .u32 (bkL (bk0 a) + 1), iO .i64 0]
  upd := fun a => [bkO (bkK (bk0 a) ++ [bkL (bk0 a) + 1]) (bkE (bk0 a) ++ [⟨wtT (at_ a 1), wtC (at_ a 1), bkT (bk0 a) + 1, 1⟩]) (bkL (bk0 a) + 1) (bkT (bk0 a) + 1), at_ a 1]
  ro := true
  quiet := false
def e1 : List (Nat × Ctr) := [(102, ownC)]
open Go.Proofs.Ytlbfenfepmmihaa in
theorem e1_ok : COk Try.prog (ctrs e1) := cok_cons ok102 cok_nil
end Go.ZR

namespace Go.ZR
open Go.Proofs
open Go.Z Go.ZM Go.RowKit
set_option maxRecDepth 100000
theorem mid_none {ks : List Int} {x : Int} : midx ks x = none ↔ x ∉ ks := by
  induction ks with
  | nil => simp [midx]
  | cons k ks ih =>
    unfold midx
    by_cases e : x = k
    · simp [e]
    · rw [if_neg e]
      cases hm : midx ks x with
      | none => simp [e, ih.1 hm]
      | some j =>
        have : ¬ x ∉ ks := fun h => by rw [ih.2 h] at hm; cases hm
        simp [e]
        simpa using this
theorem entF_add (l : List Ent) (e : Ent) (i j : Nat) : entF (l ++ [e]) i j = bif i.beq l.length then (entD e).getD j (.v undef) else entF l i j := by
  unfold entF
  by_cases h : i = l.length
  · subst h
    rw [Nat.beq_refl]
    simp [List.getD]
  · have : Nat.beq i l.length = false := by
      cases hb : Nat.beq i l.length with
      | false => rfl
      | true => exact absurd (Nat.eq_of_beq_eq_true hb) h
    rw [this]
    simp only [_root_.cond_false, List.getD]
    congr 2
    by_cases h2 : i < l.length
    · rw [List.getElem?_append_left h2]
    · rw [List.getElem?_eq_none (by simp; omega), List.getElem?_eq_none (by omega)]
noncomputable def code53 : Code := match Try.f53.body with | some c => c | none => .skip
set_option maxHeartbeats 4000000 in
theorem vc53 : ([] : List Int) = [] ∧ (∀ (i : Nat), i < (0 : Nat) → ∀ (j : Nat), j < (15 : Nat) → D.v undef = entF [] i j) ∧ (0 : Int) = (0 : Int) ∧ (0 : Int) = (0 : Int) ∧
  (!(Nat.beq (0 : Nat) (1 : Nat) || false) && (!false && true) && true) = true := by
  simp only [↓Bool.and_eq_true, ↓Bool.not_eq_true', true_and, and_true, Bool.or_false, Nat.beq]
  exact fun i hi => absurd hi (by omega)
set_option maxRecDepth 100000 in
theorem ok53 : FnIs Try.prog 53 newBC := by
  refine fnIs (C := (ctrs c0)) (by kernel_rfl) c0_ok Try.func53 (code := code53) (by kernel_rfl) (by kernel_rfl) ?_
  rintro a rfl
  exact ⟨anns [], kcast (vc53) (by kernel_rfl)⟩

noncomputable def code54 : Code := match Try.f54.body with | some c => c | none => .skip
set_option maxHeartbeats 4000000 in
theorem vc54 : ∀ (ks : List Int) (l : List Ent) (last turn t c : Int), ks.length < (256 : Nat) → l.length = ks.length → (0 : Int) ≤ last ∧ last < (4294967295 : Int) →
  ¬last + (1 : Int) ∈ ks → (0 : Int) ≤ turn ∧ turn ≤ (1099511627776 : Int) → True ∧ sw (decide ((256 : Int) ≤ (↑ks.length : Int))) (ks = ks ++ [last + (1 : Int)] ∧
  (∀ (i : Nat), i < ks.length → ∀ (j : Nat), j < (15 : Nat) → entF l i j = entF (entsOf ks.length (entF l) ++ [Ent.mk t c (turn + (1 : Int)) (1 : Nat)]) i j) ∧
  last = last + (1 : Int) ∧ turn = turn + (1 : Int) ∧ (0 : Int) = (0 : Int) ∧ (0 : Int) = (0 : Int) ∧ t = t ∧ (0 : Int) = (0 : Int) ∧ (0 : Int) = (0 : Int) ∧
  false = false ∧ false = false ∧ false = false ∧ false = false ∧ (0 : Int) = (0 : Int) ∧ (0 : Int) = (0 : Int) ∧ (0 : Int) = (0 : Int) ∧ (0 : Int) = (0 : Int) ∧
  (1 : Int) = (1 : Int) ∧ (0 : Int) = (0 : Int) ∧ false = false ∧ false = false ∧ [c] = [c] ∧ (0 : Int) = last + (1 : Int) ∧ (10 : Int) = (0 : Int) ∧ (!(Nat.beq (0 : Nat) (1 : Nat) || (Nat.beq (2 : Nat) (1 : Nat) || false)) && (!(Nat.beq (2 : Nat) (0 : Nat) || false) && (!false && true)) && true) = true) (True ∧
  (midx ks (IntKind.u32.wrap (last + (1 : Int))) = none → True ∧ sw (decide (IntKind.u32.wrap (last + (1 : Int)) = (0 : Int))) (True ∧ (midx ks (IntKind.u32.wrap (IntKind.u32.wrap (last + (1 : Int)) + (1 : Int))) = none →
  False) ∧ ∀ (j : Nat), midx ks (IntKind.u32.wrap (IntKind.u32.wrap (last + (1 : Int)) + (1 : Int))) = some j → False) (True ∧ ((∃ (t_1 : Int), ∃ (c_1 : Int), [O.agg [O.d (D.v (Value.int IntKind.i64 (0 : Int))), O.d (D.v (Value.int IntKind.u32 (0 : Int))), O.d (D.v (Value.int IntKind.i64 t)), O.d (D.v (Value.int IntKind.i64 (0 : Int))), O.d (D.v (Value.int IntKind.i64 (0 : Int))), O.d (D.v (Value.bool false)), O.d (D.v (Value.bool false)), O.d (D.v (Value.bool false)), O.d (D.v (Value.bool false)), O.d (D.v (Value.int IntKind.u32 (0 : Int))), O.d (D.v (Value.int IntKind.u32 (0 : Int))), O.d (D.v (Value.int IntKind.u32 (0 : Int))), O.d (D.v (Value.int IntKind.u32 (0 : Int))), O.rsl (123 : Nat) (1 : Nat) [O.d (D.v (Value.int IntKind.u32 (1 : Int))), O.d (D.v (Value.int IntKind.u32 (0 : Int))), O.d (D.v (Value.bool false)), O.d (D.v (Value.bool false)), O.own (5 : Nat) (D.ints IntKind.u8 [c])]]] = [O.agg [O.d (D.v (Value.int IntKind.i64 (0 : Int))), O.d (D.v (Value.int IntKind.u32 (0 : Int))), O.d (D.v (Value.int IntKind.i64 t_1)), O.d (D.v (Value.int IntKind.i64 (0 : Int))), O.d (D.v (Value.int IntKind.i64 (0 : Int))), O.d (D.v (Value.bool false)), O.d (D.v (Value.bool false)), O.d (D.v (Value.bool false)), O.d (D.v (Value.bool false)), O.d (D.v (Value.int IntKind.u32 (0 : Int))), O.d (D.v (Value.int IntKind.u32 (0 : Int))), O.d (D.v (Value.int IntKind.u32 (0 : Int))), O.d (D.v (Value.int IntKind.u32 (0 : Int))), O.rsl (123 : Nat) (1 : Nat) [O.d (D.v (Value.int IntKind.u32 (1 : Int))), O.d (D.v (Value.int IntKind.u32 (0 : Int))), O.d (D.v (Value.bool false)), O.d (D.v (Value.bool false)), O.own (5 : Nat) (D.ints IntKind.u8 [c_1])]]]) ∧
  (mputK ks (midx ks (IntKind.u32.wrap (last + (1 : Int)))) (IntKind.u32.wrap (last + (1 : Int))) = ks ++ [last + (1 : Int)] ∧ (∀ (i : Nat), i < (mputK ks (midx ks (IntKind.u32.wrap (last + (1 : Int)))) (IntKind.u32.wrap (last + (1 : Int)))).length →
  ∀ (j : Nat), j < (15 : Nat) → (bif i.beq ((midx ks (IntKind.u32.wrap (last + (1 : Int)))).getD ks.length) then [D.v (Value.int IntKind.i64 (0 : Int)), D.v (Value.int IntKind.u32 (0 : Int)), D.v (Value.int IntKind.i64 t), D.v (Value.int IntKind.i64 (0 : Int)), D.v (Value.int IntKind.i64 (0 : Int)), D.v (Value.bool false), D.v (Value.bool false), D.v (Value.bool false), D.v (Value.bool false), D.v (Value.int IntKind.u32 (0 : Int)), D.v (Value.int IntKind.u32 (0 : Int)), D.v (Value.int IntKind.u32 (0 : Int)), D.v (Value.int IntKind.u32 (0 : Int)), D.recs (5 : Nat) (1 : Nat) (avCell c), D.v (Value.int IntKind.i64 (IntKind.i64.wrap (turn + (1 : Int))))].getD j (D.v undef) else entF l i j) = entF (entsOf ks.length (entF l) ++ [Ent.mk t c (turn + (1 : Int)) (1 : Nat)]) i j) ∧
  IntKind.u32.wrap (last + (1 : Int)) = last + (1 : Int) ∧ IntKind.i64.wrap (turn + (1 : Int)) = turn + (1 : Int) ∧ (0 : Int) = (0 : Int) ∧ (0 : Int) = (0 : Int) ∧
  t = t ∧ (0 : Int) = (0 : Int) ∧ (0 : Int) = (0 : Int) ∧ false = false ∧ false = false ∧ false = false ∧ false = false ∧ (0 : Int) = (0 : Int) ∧ (0 : Int) = (0 : Int) ∧
  (0 : Int) = (0 : Int) ∧ (0 : Int) = (0 : Int) ∧ (1 : Int) = (1 : Int) ∧ (0 : Int) = (0 : Int) ∧ false = false ∧ false = false ∧ [c] = [c] ∧ IntKind.u32.wrap (last + (1 : Int)) = last + (1 : Int) ∧
  (0 : Int) = (0 : Int) ∧ (!(Nat.beq (0 : Nat) (1 : Nat) || (Nat.beq (2 : Nat) (1 : Nat) || false)) && (!(Nat.beq (2 : Nat) (0 : Nat) || false) && (!false && true)) && true) = true) ∧
  True) ∧ True)) ∧ ∀ (j : Nat), midx ks (IntKind.u32.wrap (last + (1 : Int))) = some j → True ∧ (midx ks (IntKind.u32.wrap (IntKind.u32.wrap (last + (1 : Int)) + (1 : Int))) = none →
  False) ∧ ∀ (j_1 : Nat), midx ks (IntKind.u32.wrap (IntKind.u32.wrap (last + (1 : Int)) + (1 : Int))) = some j_1 → False) := by
  simp only [↓sw_iff, ↓Bool.and_eq_true, ↓decide_eq_true_eq, ↓decide_eq_false_iff_not, ↓Bool.not_eq_true', true_and, and_true, Bool.or_false, Nat.beq]
  intro ks l last turn t c hk hll hl hn ht
  have w1 : IntKind.u32.wrap (last + 1) = last + 1 := by rw [IntKind.wrap_u32]; omega
  have w2 : IntKind.i64.wrap (turn + 1) = turn + 1 := wrap_i64_id (by omega) (by omega)
  have hm : midx ks (last + 1) = none := mid_none.2 hn
  rw [w1, w2, hm, ← hll, entsOf_F]
  refine ⟨fun h => ?_, fun _ => ⟨fun _ => ⟨fun h => ?_, fun _ => ?_⟩, fun j h => ?_⟩⟩
  all_goals first | (exfalso; omega) | cases h | skip
  refine ⟨⟨t, c, rfl⟩, ?_⟩
  refine ⟨rfl, fun i _ j _ => ?_, rfl, rfl, rfl⟩
  rw [entF_add]
  rfl
set_option maxRecDepth 100000 in
theorem ok54 : FnIs Try.prog 54 addAC := by
  refine fnIs (C := (ctrs e1)) (by kernel_rfl) e1_ok Try.func54 (code := code54) (by kernel_rfl) (by kernel_rfl) ?_
  rintro a ⟨ks, l, last, turn, t, c, rfl, hk, hll, hl, hn, ht⟩
  exact ⟨anns [] [] [(6, 2)], kcast (vc54 ks l last turn t c hk hll hl hn ht) (by kernel_rfl)⟩

end Go.ZR

set_option maxRecDepth 100000
namespace Go.ZM
open Go.Z
end Go.ZM
namespace Go.ZR
open Go.Z Go.ZM Go.Proofs
def nilB : O := .d (.v (.pointer none))
def ow (own : List Bool) (pre : List O → Prop) (res upd : List O → List O) : Ctr := { own := own, pre := pre, res := res, upd := upd, ro := true, quiet := false }
def okB (ks : List Int) (l : List Ent) (last turn : Int) : Prop := l.length = ks.length ∧ (0 ≤ last ∧ last < 4294967295) ∧ (0 ≤ turn ∧ turn ≤ 1099511627776)
def addNC : Ctr := ow [true, true] (fun a => a = [nilB, wtN 0]) (fun _ => [iO .u32 0, iO .i64 1]) fun _ => [.any, .any]
def takeNC : Ctr := ow [true, false, false, false] (fun a => ∃ h t e : Int, a = [nilB, iO .u32 h, iO .i64 t, iO .u32 e]) (fun _ => [wtN 0, iO .i64 1]) fun _ => [.any, .any, .any, .any]
def hk (a : List O) : Nat := (midx (bkK (bk0 a)) (vi (dO (at_ a 1)))).getD 0
def lenNC : Ctr := ow [true] (fun a => a = [nilB]) (fun _ => [iO .i64 0]) fun _ => [.any]
def nilL : O := .d (.v (.slice none 0 0))
def nilW : O := .own 117 (.recs 14 0 undefF)
def cloneNC : Ctr := ow [true] (fun a => a = [.d (.recs 5 0 undefF)]) (fun _ => [.d (.recs 5 0 undefF)]) fun _ => [.any]
def ownNC : Ctr := ow [true] (fun a => a = [wtN 0]) (fun _ => [wtH 0 (.d (.recs 5 0 (avCell 0)))]) fun _ => [.any]
def failNC : Ctr := ow [true, false] (fun a => ∃ n : Int, a = [nilB, iO .i64 n]) (fun _ => [nilW]) fun _ => [.any, .any]
def e2 : List (Nat × Ctr) := [(141, cloneNC)]
def e3 : List (Nat × Ctr) := [(102, ownNC)]
end Go.ZR

namespace Go.ZR
open Go.Proofs
open Go.Z Go.ZM Go.RowKit
set_option maxRecDepth 100000
noncomputable def code54n : Code := match Try.f54.body with | some c => c | none => .skip
set_option maxHeartbeats 4000000 in
theorem vc54n : (0 : Int) = (0 : Int) ∧ (1 : Int) = (1 : Int) ∧ (true && true) = true := by
  simp only [↓Bool.and_eq_true, and_true]
set_option maxRecDepth 100000 in
theorem ok54n : FnIs Try.prog 54 addNC := by
  refine fnIs (C := (ctrs c0)) (by kernel_rfl) c0_ok Try.func54 (code := code54n) (by kernel_rfl) (by kernel_rfl) ?_
  rintro a rfl
  exact ⟨anns [], kcast (vc54n) (by kernel_rfl)⟩

noncomputable def code55n : Code := match Try.f55.body with | some c => c | none => .skip
set_option maxHeartbeats 4000000 in
theorem vc55n : ∀ (_h _t _e : Int), (0 : Int) = (0 : Int) ∧ (0 : Int) = (0 : Int) ∧ (0 : Int) = (0 : Int) ∧ (0 : Int) = (0 : Int) ∧ (0 : Int) = (0 : Int) ∧ false = false ∧
  false = false ∧ false = false ∧ false = false ∧ (0 : Int) = (0 : Int) ∧ (0 : Int) = (0 : Int) ∧ (0 : Int) = (0 : Int) ∧ (0 : Int) = (0 : Int) ∧ (0 : Nat) = (0 : Nat) ∧
  (1 : Int) = (1 : Int) ∧ (true && true) = true := by
  simp only [↓Bool.and_eq_true, and_true, implies_true, implies_true]
set_option maxRecDepth 100000 in
theorem ok55n : FnIs Try.prog 55 takeNC := by
  refine fnIs (C := (ctrs c0)) (by kernel_rfl) c0_ok Try.func55 (code := code55n) (by kernel_rfl) (by kernel_rfl) ?_
  rintro a ⟨h, t, e, rfl⟩
  exact ⟨anns [], kcast (vc55n h t e) (by kernel_rfl)⟩

noncomputable def code141 : Code := match Try.f141.body with | some c => c | none => .skip
set_option maxHeartbeats 4000000 in
theorem vc141 : ∀ (t : Bool), (t = true → (0 : Nat) = (0 : Nat)) → sw t ((0 : Nat) = (0 : Nat) ∧ (true && true) = true) (True ∧ (0 : Nat) ≤ (140737488355328 : Nat) ∧ ((0 : Nat) = (0 : Nat) ∧
  ∀ (i : Nat), i < (0 : Nat) → ∀ (j : Nat), j < Try.prog.types[(123 : Nat)].size → D.v undef = D.v undef) ∧ (true && (!false && true)) = true) := by
  simp only [↓sw_iff, ↓Bool.and_eq_true, ↓Bool.not_eq_true', true_and, and_true, implies_true]
  intros; omega
set_option maxRecDepth 100000 in
theorem ok141 : FnIs Try.prog 141 cloneNC := by
  refine fnIs (C := (ctrs c0)) (by kernel_rfl) c0_ok Try.func141 (code := code141) (by kernel_rfl) (by kernel_rfl) ?_
  rintro a rfl
  exact ⟨anns [], kcast (vc141) (by kernel_rfl)⟩

theorem e2_ok : COk Try.prog (ctrs e2) := cok_cons ok141 cok_nil

noncomputable def code102n : Code := match Try.f102.body with | some c => c | none => .skip
set_option maxHeartbeats 4000000 in
theorem vc102n : [O.d (D.recs (5 : Nat) (0 : Nat) fun (_x _x_1 : Nat) => D.v undef)] = [O.d (D.recs (5 : Nat) (0 : Nat) fun (_x _x_1 : Nat) => D.v undef)] ∧ True ∧ (0 : Int) = (0 : Int) ∧
  (0 : Int) = (0 : Int) ∧ (0 : Int) = (0 : Int) ∧ (0 : Int) = (0 : Int) ∧ (0 : Int) = (0 : Int) ∧ false = false ∧ false = false ∧ false = false ∧ false = false ∧
  (0 : Int) = (0 : Int) ∧ (0 : Int) = (0 : Int) ∧ (0 : Int) = (0 : Int) ∧ (0 : Int) = (0 : Int) ∧ ((0 : Nat) = (0 : Nat) ∧ ∀ (i : Nat), i < (0 : Nat) → ∀ (j : Nat), j < (5 : Nat) →
  D.v undef = avCell (0 : Int) i j) ∧ (true && true) = true := by
  simp only [↓Bool.and_eq_true, true_and, and_true]
  exact fun i hi => absurd hi (by omega)
set_option maxRecDepth 100000 in
theorem ok102n : FnIs Try.prog 102 ownNC := by
  refine fnIs (C := (ctrs e2)) (by kernel_rfl) e2_ok Try.func102 (code := code102n) (by kernel_rfl) (by kernel_rfl) ?_
  rintro a rfl
  exact ⟨anns [] [] [(3, 1)], kcast (vc102n) (by kernel_rfl)⟩

noncomputable def code59 : Code := match Try.f59.body with | some c => c | none => .skip
set_option maxHeartbeats 4000000 in
theorem vc59 : (0 : Int) = (0 : Int) ∧ (true && true) = true := by
  simp only [↓Bool.and_eq_true, and_true]
set_option maxRecDepth 100000 in
theorem ok59 : FnIs Try.prog 59 lenNC := by
  refine fnIs (C := (ctrs c0)) (by kernel_rfl) c0_ok Try.func59 (code := code59) (by kernel_rfl) (by kernel_rfl) ?_
  rintro a rfl
  exact ⟨anns [], kcast (vc59) (by kernel_rfl)⟩

theorem e3_ok : COk Try.prog (ctrs e3) := cok_cons ok102n cok_nil

end Go.ZR

set_option maxRecDepth 100000
namespace Go.ZM
open Go.Z
def rqCell : Nat → Nat → D := fun _ j => match j with
  | 0 => .v (.int .u32 283)
  | 1 => .v (.int .u32 0)
  | 2 => .v (.bool false)
  | 3 => .v (.bool false)
  | _ => .ints .u8 [114]
def fnT (g : Nat) (n : Int) : D := .fn g 0 1 fun i => [D.ptr 3 1 fun i => [D.v (.int .i64 n)].getD i (.v undef)].getD i (.v undef)
end Go.ZM
namespace Go.ZR
open Go.Z Go.ZM Go.Proofs
def stO (s : ByteArray) : O := .d (.v (.string s))
def rqO : O := .agg [bO true, bO false, bO false, bO false, iO .u32 9300, iO .u32 0, iO .u32 0, iO .u32 0, .d (.recs 5 1 rqCell)]
def rd (n : Nat) (ro : Bool) (pre : List O → Prop) (res : List O → List O) : Ctr := { own := List.replicate n false, pre := pre, res := res, upd := fun _ => List.replicate n .any, ro := ro, quiet := false }
def reqC : Ctr := rd 3 true (fun a => a = [stO ⟨#[114]⟩, stO ⟨#[]⟩, .d (.recs 1 0 undefF)]) fun _ => [rqO]
def thosNC : Ctr := rd 2 false (fun a => ∃ g n, a = [nilB, .d (fnT g n)]) fun _ => [nilW]
def e5 : List (Nat × Ctr) := [(105, thosNC)]
end Go.ZR

namespace Go.ZR
open Go.Proofs
open Go.Z Go.ZM Go.RowKit
set_option maxRecDepth 100000
noncomputable def code105 : Code := match Try.f105.body with | some c => c | none => .skip
set_option maxHeartbeats 4000000 in
theorem vc105 : ∀ (_g : Nat) (_n : Int), (0 : Nat) = (0 : Nat) ∧ (true && true) = true := by
  simp only [↓Bool.and_eq_true, and_true, implies_true, implies_true]
set_option maxRecDepth 100000 in
theorem ok105 : FnIs Try.prog 105 thosNC := by
  refine fnIs (C := (ctrs c0)) (by kernel_rfl) c0_ok Try.func105 (code := code105) (by kernel_rfl) (by kernel_rfl) ?_
  rintro a ⟨g, n, rfl⟩
  exact ⟨anns [], kcast (vc105 g n) (by kernel_rfl)⟩

theorem e5_ok : COk Try.prog (ctrs e5) := cok_cons ok105 cok_nil

noncomputable def code57 : Code := match Try.f57.body with | some c => c | none => .skip
set_option maxHeartbeats 4000000 in
theorem vc57 : ∀ (n : Int), (∃ (g : Nat), ∃ (n_1 : Int), [O.d (D.v (Value.pointer none)), O.d (D.fn (106 : Nat) (0 : Nat) (1 : Nat) fun (i : Nat) => [D.ptr (3 : Nat) (1 : Nat) fun (i : Nat) => [D.v (Value.int IntKind.i64 n)].getD i (D.v undef)].getD i (D.v undef))] = [O.d (D.v (Value.pointer none)), O.d (fnT g n_1)]) ∧
  (((∀ (i : Nat), i < (0 : Nat) → ∀ (j : Nat), j < (14 : Nat) → ∃ (v : Value), D.v undef = D.v v) ∧ True) ∧ true = true ∧ true = true ∧ True) ∧ ((0 : Nat) = (0 : Nat) ∧
  ∀ (i : Nat), i < (0 : Nat) → ∀ (j : Nat), j < (14 : Nat) → D.v undef = D.v undef) ∧ (!false && true && true) = true := by
  simp only [↓Bool.and_eq_true, ↓Bool.not_eq_true', and_true, implies_true]
  intro n
  exact ⟨⟨_, _, rfl⟩, fun i hi => absurd hi (by omega)⟩
set_option maxRecDepth 100000 in
theorem ok57 : FnIs Try.prog 57 failNC := by
  refine fnIs (C := (ctrs e5)) (by kernel_rfl) e5_ok Try.func57 (code := code57) (by kernel_rfl) (by kernel_rfl) ?_
  rintro a ⟨n, rfl⟩
  exact ⟨anns [], kcast (vc57 n) (by kernel_rfl)⟩

noncomputable def code58 : Code := match Try.f58.body with | some c => c | none => .skip
set_option maxHeartbeats 4000000 in
theorem vc58 : ∀ (n : Int), (∃ (g : Nat), ∃ (n_1 : Int), [O.d (D.v (Value.pointer none)), O.d (D.fn (107 : Nat) (0 : Nat) (1 : Nat) fun (i : Nat) => [D.ptr (3 : Nat) (1 : Nat) fun (i : Nat) => [D.v (Value.int IntKind.i64 n)].getD i (D.v undef)].getD i (D.v undef))] = [O.d (D.v (Value.pointer none)), O.d (fnT g n_1)]) ∧
  (((∀ (i : Nat), i < (0 : Nat) → ∀ (j : Nat), j < (14 : Nat) → ∃ (v : Value), D.v undef = D.v v) ∧ True) ∧ true = true ∧ true = true ∧ True) ∧ ((0 : Nat) = (0 : Nat) ∧
  ∀ (i : Nat), i < (0 : Nat) → ∀ (j : Nat), j < (14 : Nat) → D.v undef = D.v undef) ∧ (!false && true && true) = true := by
  simp only [↓Bool.and_eq_true, ↓Bool.not_eq_true', and_true, implies_true]
  intro n
  exact ⟨⟨_, _, rfl⟩, fun i hi => absurd hi (by omega)⟩
set_option maxRecDepth 100000 in
theorem ok58 : FnIs Try.prog 58 failNC := by
  refine fnIs (C := (ctrs e5)) (by kernel_rfl) e5_ok Try.func58 (code := code58) (by kernel_rfl) (by kernel_rfl) ?_
  rintro a ⟨n, rfl⟩
  exact ⟨anns [], kcast (vc58 n) (by kernel_rfl)⟩

noncomputable def code104 : Code := match Try.f104.body with | some c => c | none => .skip
set_option maxHeartbeats 4000000 in
theorem vc104 : True ∧ True ∧ true = true ∧ false = false ∧ false = false ∧ false = false ∧ (9300 : Int) = (9300 : Int) ∧ (0 : Int) = (0 : Int) ∧ (0 : Int) = (0 : Int) ∧
  (0 : Int) = (0 : Int) ∧ ((1 : Nat) = (1 : Nat) ∧ ∀ (i : Nat), i < (1 : Nat) → ∀ (j : Nat), j < Try.prog.types[(123 : Nat)].size → [D.v (Value.int IntKind.u32 (283 : Int)), D.v (Value.int IntKind.u32 (0 : Int)), D.v (Value.bool false), D.v (Value.bool false), D.ints IntKind.u8 [(↑(UInt8.toNat (114 : UInt8)) : Int)]].getD (i * Try.prog.types[(123 : Nat)].size + j) (D.v undef) = rqCell i j) ∧
  (true && (!false && true)) = true := by
  simp only [↓Bool.and_eq_true, ↓Bool.not_eq_true', true_and, and_true]
  intro i hi j hj
  obtain rfl : i = 0 := by omega
  have hs : Try.prog.types[(123 : Nat)].size = 5 := by kernel_rfl
  rw [hs] at hj ⊢
  match j, hj with
  | 0, _ => rfl
  | 1, _ => rfl
  | 2, _ => rfl
  | 3, _ => rfl
  | 4, _ => rfl
set_option maxRecDepth 100000 in
theorem ok104 : FnIs Try.prog 104 reqC := by
  refine fnIs (C := (ctrs c0)) (by kernel_rfl) c0_ok Try.func104 (code := code104) (by kernel_rfl) (by kernel_rfl) ?_
  rintro a rfl
  exact ⟨anns [] [] [(5, 1)], kcast (vc104) (by kernel_rfl)⟩

end Go.ZR

set_option maxRecDepth 100000
namespace Go.Z
def Ctr.eith (t : List O → Bool) (c d : Ctr) : Ctr where
  own := c.own
  pre := fun a => (t a = true ∧ c.pre a) ∨ (t a = false ∧ d.pre a)
  res := fun a => bif t a then c.res a else d.res a
  upd := fun a => bif t a then c.upd a else d.upd a
  ro := c.ro
  quiet := c.quiet
  gl := c.gl
theorem FnIs.eith {P : Program} {f : Nat} {t : List O → Bool} {c d : Ctr} (h : FnIs P f c) (k : FnIs P f d) (hg : d.gl = c.gl := by rfl) : FnIs P f (Ctr.eith t c d) := by
  refine ⟨fun w A aa vs fp h1 h2 h3 h4 h5 => ?_, h.2⟩
  rcases h4 with ⟨e, h4⟩ | ⟨e, h4⟩
  · have := h.1 w A aa vs fp h1 h2 h3 h4 h5
    have e1 : (Ctr.eith t c d).res aa = c.res aa := by show (bif t aa then _ else _) = _; rw [e]; rfl
    have e2 : (Ctr.eith t c d).upd aa = c.upd aa := by show (bif t aa then _ else _) = _; rw [e]; rfl
    rw [e1, e2]
    exact this
  · have := k.1 w A aa vs fp h1 h2 h3 h4 (by rw [hg]; exact h5)
    have e1 : (Ctr.eith t c d).res aa = d.res aa := by show (bif t aa then _ else _) = _; rw [e]; rfl
    have e2 : (Ctr.eith t c d).upd aa = d.upd aa := by show (bif t aa then _ else _) = _; rw [e]; rfl
    rw [e1, e2]
    exact this
end Go.Z
namespace Go.ZR
open Go.Z Go.ZM Go.Proofs
def cl82C : Ctr := rd 1 false (fun a => a = [.d (.ints .u8 [114])]) fun _ => [.own 5 (.ints .u8 [114])]
def findA : Ctr := rd 2 false (fun a => a = [rqO, iO .u32 283]) fun _ => [.own 5 (.ints .u8 [114]), bO true]
def findB : Ctr := rd 2 false (fun a => a = [rqO, iO .u32 293]) fun _ => [nilL, bO false]
def is283 (a : List O) : Bool := vi (dO (at_ a 1)) == 283
def ndO : O := .agg [stO ⟨#[97]⟩, stO ⟨#[114]⟩, bO true, .d (.ints .i64 []), .d (.recs 2 0 undefF)]
def nmO : O := .d (.recs 1 1 (gridD 1 [.v (.string ⟨#[97]⟩)]))
def pickC1 : Ctr := rd 5 false (fun a => a = [ndO, nmO, .d (.ints .i64 []), rqO, iO .i64 (-2)]) fun _ => [iO .i64 (-1), iO .i64 0]
def ansRC : Ctr := nC 0 false (fun a => a = []) fun _ => [bO true]
def e6 : List (Nat × Ctr) := [(82, cl82C)]
def e7 : List (Nat × Ctr) := [(142, Ctr.eith is283 findA findB)]
def e8 : List (Nat × Ctr) := [(103, pickC1), (104, reqC)]
end Go.ZR

namespace Go.ZR
open Go.Proofs
open Go.Z Go.ZM Go.RowKit
set_option maxRecDepth 100000
noncomputable def code82 : Code := match Try.f82.body with | some c => c | none => .skip
set_option maxHeartbeats 4000000 in
theorem vc82 : ∀ (t : Bool), (t = true → (1 : Nat) = (0 : Nat)) → sw t ([(114 : Int)] = [] ∧ (true && true) = true) (True ∧ (1 : Nat) ≤ (140737488355328 : Nat) ∧ [(114 : Int)] = [(114 : Int)] ∧
  (!false && true && true) = true) := by
  simp only [↓sw_iff, ↓Bool.and_eq_true, ↓Bool.not_eq_true', true_and, and_true]
  intro t h
  exact ⟨fun ht => absurd (h ht) (by omega), fun _ => by omega⟩
set_option maxRecDepth 100000 in
theorem ok82 : FnIs Try.prog 82 cl82C := by
  refine fnIs (C := (ctrs c0)) (by kernel_rfl) c0_ok Try.func82 (code := code82) (by kernel_rfl) (by kernel_rfl) ?_
  rintro a rfl
  exact ⟨anns [], kcast (vc82) (by kernel_rfl)⟩

theorem e6_ok : COk Try.prog (ctrs e6) := cok_cons ok82 cok_nil

noncomputable def iFc184 : Code := match Try.f184.body with | some c => c | none => .skip
noncomputable def iF_184 : InlF := ⟨iFc184, Try.f184.ntmps, Try.f184.results.toList, anns [] [] [(2, 2)]⟩
noncomputable def iFc185 : Code := match Try.f185.body with | some c => c | none => .skip
noncomputable def iF_185 : InlF := ⟨iFc185, Try.f185.ntmps, Try.f185.results.toList, anns []⟩
noncomputable def iF : List (Nat × InlF) := [(184, iF_184), (185, iF_185)]
theorem iF_ok : InlsOk Try.prog iF := ⟨inlOk Try.func184 (by kernel_rfl) (by kernel_rfl), inlOk Try.func185 (by kernel_rfl) (by kernel_rfl), trivial⟩
noncomputable def code142a : Code := match Try.f142.body with | some c => c | none => .skip
set_option maxHeartbeats 4000000 in
theorem vc142a : True ∧ ((0 : Int) ≤ (0 : Int) ∧ (0 : Int) < (↑(1 : Nat) : Int)) ∧ True ∧ SV.p (4 : Nat) (1 : Nat) = SV.p (4 : Nat) (1 : Nat) ∧ ([decide ((283 : Int) = (283 : Int))] = [decide ((283 : Int) = (283 : Int))] ∧
  SV.c (Value.int IntKind.u32 (0 : Int)) = SV.c (Value.int IntKind.u32 (0 : Int))) ∧ ([decide ((283 : Int) = (283 : Int))] = [decide ((283 : Int) = (283 : Int))] ∧
  True ∧ SV.c (Value.bool (decide ((0 : Int) = (0 : Int)))) = SV.c (Value.bool (decide ((0 : Int) = (0 : Int))))) ∧ [decide ((283 : Int) = (283 : Int))] = [decide ((283 : Int) = (283 : Int))] ∧
  True ∧ ((0 : Int) ≤ (0 : Int) ∧ (0 : Int) < (↑(1 : Nat) : Int)) ∧ [O.d (D.ints IntKind.u8 [(114 : Int)])] = [O.d (D.ints IntKind.u8 [(114 : Int)])] ∧ [(114 : Int)] = [(114 : Int)] ∧
  true = true ∧ (!false && true && true) = true := by
  simp only [↓Bool.and_eq_true, ↓Bool.not_eq_true', true_and, and_true]
  omega
set_option maxRecDepth 100000 in
theorem ok142a : FnIs Try.prog 142 findA := by
  refine fnIs (C := (ctrsJ Try.prog e6 iF 3)) (by kernel_rfl) (cokJ (by kernel_rfl) e6_ok iF_ok) Try.func142 (code := code142a) (by kernel_rfl) (by kernel_rfl) ?_
  rintro a rfl
  exact ⟨anns [], kcast (vc142a) (by kernel_rfl)⟩

noncomputable def code142b : Code := match Try.f142.body with | some c => c | none => .skip
set_option maxHeartbeats 4000000 in
theorem vc142b : True ∧ ((0 : Int) ≤ (0 : Int) ∧ (0 : Int) < (↑(1 : Nat) : Int)) ∧ True ∧ True ∧ True ∧ True ∧ [decide ((283 : Int) = (293 : Int))] = [decide ((283 : Int) = (293 : Int))] ∧
  True ∧ True ∧ True ∧ Value.slice none (0 : Nat) (0 : Nat) = Value.slice none (0 : Nat) (0 : Nat) ∧ false = false ∧ (true && true) = true := by
  simp only [↓Bool.and_eq_true, true_and, and_true]
  omega
set_option maxRecDepth 100000 in
theorem ok142b : FnIs Try.prog 142 findB := by
  refine fnIs (C := (ctrsJ Try.prog e6 iF 3)) (by kernel_rfl) (cokJ (by kernel_rfl) e6_ok iF_ok) Try.func142 (code := code142b) (by kernel_rfl) (by kernel_rfl) ?_
  rintro a rfl
  exact ⟨anns [], kcast (vc142b) (by kernel_rfl)⟩

end Go.ZR
