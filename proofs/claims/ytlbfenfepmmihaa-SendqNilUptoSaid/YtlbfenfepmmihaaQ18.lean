/- Part 18 of what the closing text rests on. -/
import Derived.Test.YtlbfenfepmmihaaQ17
import Derived.Test.YtlbfenfepmmihaaRows
namespace Go.ZR
open Go.Proofs
open Go.Z Go.ZM Go.RowKit
set_option maxRecDepth 100000
theorem bytes86 : Try.prog.types[(86 : Nat)].bytes = 40 := by kernel_rfl
theorem size86 : Try.prog.types[(86 : Nat)].size = 7 := by kernel_rfl
theorem bytes169 : Try.prog.types[(169 : Nat)].bytes = 8 := by kernel_rfl
theorem qu_eta (q : QuR) : QuR.mk q.next q.wait q.out = q := rfl
theorem its_mk (l : List ItR) : List.map (fun (i : Nat) => ItR.mk (pieAt (itCell l i)) (l.getD i noIt).path (l.getD i noIt).missed (l.getD i noIt).heard (l.getD i noIt).marked) (List.range l.length) = l := itsD_its l
theorem sr1 (f : Nat → Nat → D) (k o i j : Nat) (d : D) : setRecM f k o [d] i j = if i = k ∧ j = o then d else f i j := by
  rw [setRecM_eq]
  unfold setRec
  by_cases h : i = k ∧ j = o
  · obtain ⟨rfl, rfl⟩ := h
    simp [Nat.ble_eq_true_of_le, show Nat.blt j (j + 1) = true from Nat.ble_eq_true_of_le (Nat.le_refl _)]
  · rw [if_neg h]
    have : (Nat.beq i k && Nat.ble o j && Nat.blt j (o + [d].length)) = false := by
      cases h1 : Nat.beq i k with
      | false => rfl
      | true =>
        cases h2 : Nat.ble o j with
        | false => rfl
        | true =>
          cases h3 : Nat.blt j (o + [d].length) with
          | false => rfl
          | true =>
            have a1 := Nat.eq_of_beq_eq_true h1
            have a2 := Nat.le_of_ble_eq_true h2
            have a3 : j + 1 ≤ o + 1 := Nat.le_of_ble_eq_true h3
            exact absurd ⟨a1, by omega⟩ h
    rw [this]
    rfl
theorem cond_eq_if {α : Type} (i k : Nat) (x y : α) : (bif Nat.beq i k then x else y) = if i = k then x else y := by
  by_cases h : i = k
  · subst h; simp
  · rw [if_neg h]
    cases hb : Nat.beq i k with
    | false => rfl
    | true => exact absurd (Nat.eq_of_beq_eq_true hb) h
theorem itCell_set {l : List ItR} {k : Nat} (hk : k < l.length) (x : ItR) (i : Nat) : itCell (l.set k x) i = if i = k then itCell [x] 0 else itCell l i := by
  funext j
  by_cases h : i = k
  · subst h
    rw [if_pos rfl]
    unfold itCell
    simp [List.getD, hk]
  · rw [if_neg h]
    unfold itCell
    simp [List.getD, List.getElem?_set_ne (Ne.symm h)]
theorem itCell_app (l : List ItR) (x : ItR) {i : Nat} (hi : i < l.length + 1) : itCell (l ++ [x]) i = if i = l.length then itCell [x] 0 else itCell l i := by
  funext j
  by_cases h : i = l.length
  · subst h
    rw [if_pos rfl]
    unfold itCell
    simp [List.getD]
  · rw [if_neg h]
    unfold itCell
    simp [List.getD, List.getElem?_append_left (show i < l.length by omega)]
theorem pieCell_app (l : List PieR) (x : PieR) {i j : Nat} (hi : i < l.length + 1) (hj : j < 7) : pieCell (l ++ [x]) i j = bif i.blt l.length then pieCell l i j else
    [D.v (Value.int IntKind.u32 x.tsn), D.v (Value.int IntKind.u16 x.str), D.v (Value.int IntKind.u16 x.seq), D.v (Value.bool x.b), D.v (Value.bool x.e), D.v (Value.bool x.u), D.ints IntKind.u8 x.bytes].getD ((i - l.length) * 7 + j) (D.v undef) := by
  by_cases h : i < l.length
  · rw [show i.blt l.length = true from Nat.ble_eq_true_of_le h]
    unfold pieCell
    simp [List.getD, List.getElem?_append_left h]
  · have : i = l.length := by omega
    subst this
    have : (l.length).blt l.length = false := by
      cases hb : (l.length).blt l.length with
      | false => rfl
      | true => exact absurd (Nat.le_of_ble_eq_true hb) (by omega)
    rw [this, Nat.sub_self, Nat.zero_mul, Nat.zero_add]
    have e : (l ++ [x]).getD l.length noPie = x := by simp [List.getD]
    unfold pieCell
    rw [e]
    match j, hj with
    | 0, _ => rfl
    | 1, _ => rfl
    | 2, _ => rfl
    | 3, _ => rfl
    | 4, _ => rfl
    | 5, _ => rfl
    | 6, _ => rfl
theorem push_1 {q : QuR} {p : PieR} (h : p.bytes.length = 0 ∨ 256 < p.bytes.length) : pushQ q p = (q, 0, 2) := by unfold pushQ; rw [if_pos h]
theorem push_2 {q : QuR} {p : PieR} (h : ¬ (p.bytes.length = 0 ∨ 256 < p.bytes.length)) (h2 : 256 ≤ q.wait.length + q.out.length) : pushQ q p = (q, 0, 10) := by unfold pushQ; rw [if_neg h, if_pos h2]
theorem push_3 {q : QuR} {p : PieR} (h : ¬ (p.bytes.length = 0 ∨ 256 < p.bytes.length)) (h2 : ¬ 256 ≤ q.wait.length + q.out.length) :
    pushQ q p = (⟨u32 (q.next + 1), q.wait ++ [{ p with tsn := q.next }], q.out⟩, q.next, 0) := by unfold pushQ; rw [if_neg h, if_neg h2]
theorem mark_lt {l : List ItR} {k : Nat} (h : markQ l = some k) : k < l.length := by
  unfold markQ at h
  exact (List.findIdx?_eq_some_iff_findIdx_eq.1 h).1
theorem next_nil {q : QuR} {p : Int} (h : markQ q.out = none) (hw : q.wait = []) : nextQ q p = (q, noPie, false) := by unfold nextQ; rw [h]; simp only [hw]
theorem next_cons {q : QuR} {p : Int} (h : markQ q.out = none) {x : PieR} {l : List PieR} (hw : q.wait = x :: l) : nextQ q p = (⟨q.next, l, q.out ++ [⟨x, p, 0, false, false⟩]⟩, x, true) := by unfold nextQ; rw [h]; simp only [hw]
theorem next_mark {q : QuR} {p : Int} {k : Nat} (h : markQ q.out = some k) : nextQ q p = (⟨q.next, q.wait, q.out.set k (sendI p (q.out.getD k noIt))⟩, (q.out.getD k noIt).pc, true) := by unfold nextQ; rw [h]
theorem srAll (f : Nat → Nat → D) (k i : Nat) {j : Nat} (ds : List D) (hj : j < ds.length) : setRecM f k 0 ds i j = if i = k then ds.getD j (.v undef) else f i j := by
  rw [setRecM_eq]
  by_cases h : i = k
  · subst h
    rw [if_pos rfl]
    exact setRec_all hj
  · rw [if_neg h, setRec_other h]
theorem pieCell_tl (x : PieR) (l : List PieR) (i j : Nat) : pieCell (x :: l) (1 + i) j = pieCell l i j := by
  unfold pieCell
  rw [Nat.add_comm 1 i]
  simp only [List.getD_cons_succ]
theorem sent_cells (l : List ItR) (x : PieR) (p : Int) {i j : Nat} (hi : i < l.length + 1) (hj : j < 11) :
    setRecM (setRecM (setRecM (setRecM (itCell l) l.length 0 [D.v (Value.int .u32 x.tsn), D.v (Value.int .u16 x.str), D.v (Value.int .u16 x.seq), D.v (Value.bool x.b), D.v (Value.bool x.e), D.v (Value.bool x.u), D.ints .u8 x.bytes,
      D.v (Value.int .i64 0), D.v (Value.int .i64 0), D.v (Value.bool false), D.v (Value.bool false)]) l.length 7 [D.v (Value.int .i64 p)]) l.length 10 [D.v (Value.bool false)]) l.length 8 [D.v (Value.int .i64 0)] i j =
    itCell (l ++ [⟨x, p, 0, false, false⟩]) i j := by
  rw [itCell_app _ _ hi]
  simp only [sr1]
  rw [srAll _ _ _ _ (by simpa using hj)]
  by_cases h : i = l.length
  · simp only [h, if_true, true_and]
    match j, hj with
    | 0, _ => rfl
    | 1, _ => rfl
    | 2, _ => rfl
    | 3, _ => rfl
    | 4, _ => rfl
    | 5, _ => rfl
    | 6, _ => rfl
    | 7, _ => rfl
    | 8, _ => rfl
    | 9, _ => rfl
    | 10, _ => rfl
  · simp only [false_and, h, if_false]
theorem again_cells (l : List ItR) {k : Nat} (hk : k < l.length) (p : Int) {i j : Nat} (hj : j < 11) :
    setRecM (setRecM (setRecM (itCell l) k 7 [D.v (Value.int .i64 p)]) k 10 [D.v (Value.bool false)]) k 8 [D.v (Value.int .i64 0)] i j = itCell (l.set k (sendI p (l.getD k noIt))) i j := by
  rw [itCell_set hk]
  simp only [sr1]
  by_cases h : i = k
  · simp only [h, if_true, true_and]
    match j, hj with
    | 0, _ => rfl
    | 1, _ => rfl
    | 2, _ => rfl
    | 3, _ => rfl
    | 4, _ => rfl
    | 5, _ => rfl
    | 6, _ => rfl
    | 7, _ => rfl
    | 8, _ => rfl
    | 9, _ => rfl
    | 10, _ => rfl
  · simp only [false_and, h, if_false]
noncomputable def iN2c84 : Code := match Try.f84.body with | some c => c | none => .skip
noncomputable def iN2_84 : InlF := ⟨iN2c84, Try.f84.ntmps, Try.f84.results.toList, anns []⟩
noncomputable def iN2c85 : Code := match Try.f85.body with | some c => c | none => .skip
noncomputable def iN2_85 : InlF := ⟨iN2c85, Try.f85.ntmps, Try.f85.results.toList, anns []⟩
noncomputable def iN2c86 : Code := match Try.f86.body with | some c => c | none => .skip
noncomputable def iN2_86 : InlF := ⟨iN2c86, Try.f86.ntmps, Try.f86.results.toList, anns []⟩
noncomputable def iN2c87 : Code := match Try.f87.body with | some c => c | none => .skip
noncomputable def iN2_87 : InlF := ⟨iN2c87, Try.f87.ntmps, Try.f87.results.toList, anns []⟩
noncomputable def iN2c90 : Code := match Try.f90.body with | some c => c | none => .skip
noncomputable def iN2_90 : InlF := ⟨iN2c90, Try.f90.ntmps, Try.f90.results.toList, anns []⟩
noncomputable def iN2c92 : Code := match Try.f92.body with | some c => c | none => .skip
noncomputable def iN2_92 : InlF := ⟨iN2c92, Try.f92.ntmps, Try.f92.results.toList, anns []⟩
noncomputable def iN2c131 : Code := match Try.f131.body with | some c => c | none => .skip
noncomputable def iN2_131 : InlF := ⟨iN2c131, Try.f131.ntmps, Try.f131.results.toList, anns [] [] [(2, 1)]⟩
noncomputable def iN2c132 : Code := match Try.f132.body with | some c => c | none => .skip
noncomputable def iN2_132 : InlF := ⟨iN2c132, Try.f132.ntmps, Try.f132.results.toList, anns []⟩
noncomputable def iN2c170 : Code := match Try.f170.body with | some c => c | none => .skip
noncomputable def iN2_170 : InlF := ⟨iN2c170, Try.f170.ntmps, Try.f170.results.toList, anns [] [] [(1, 1), (4, 1)]⟩
noncomputable def iN2c180 : Code := match Try.f180.body with | some c => c | none => .skip
noncomputable def iN2_180 : InlF := ⟨iN2c180, Try.f180.ntmps, Try.f180.results.toList, anns []⟩
noncomputable def iN2 : List (Nat × InlF) := [(84, iN2_84), (85, iN2_85), (86, iN2_86), (87, iN2_87), (90, iN2_90), (92, iN2_92), (131, iN2_131), (132, iN2_132), (170, iN2_170), (180, iN2_180)]
theorem iN2_ok : InlsOk Try.prog iN2 := ⟨inlOk Try.func84 (by kernel_rfl) (by kernel_rfl), inlOk Try.func85 (by kernel_rfl) (by kernel_rfl), inlOk Try.func86 (by kernel_rfl) (by kernel_rfl), inlOk Try.func87 (by kernel_rfl) (by kernel_rfl), inlOk Try.func90 (by kernel_rfl) (by kernel_rfl), inlOk Try.func92 (by kernel_rfl) (by kernel_rfl), inlOk Try.func131 (by kernel_rfl) (by kernel_rfl), inlOk Try.func132 (by kernel_rfl) (by kernel_rfl), inlOk Try.func170 (by kernel_rfl) (by kernel_rfl), inlOk Try.func180 (by kernel_rfl) (by kernel_rfl), trivial⟩
noncomputable def code37 : Code := match Try.f37.body with | some c => c | none => .skip
set_option maxHeartbeats 4000000 in
theorem vc37 : ∀ (f : Int), f = (newQ f).next ∧ (newQ f).wait.length = (0 : Nat) ∧ ((newQ f).out.length = (0 : Nat) ∧ True) ∧ (!false && true && true) = true := by
  simp only [↓Bool.and_eq_true, ↓Bool.not_eq_true', and_true]
  intro f
  exact ⟨rfl, rfl, rfl⟩
set_option maxRecDepth 100000 in
theorem ok37 : FnIs Try.prog 37 newQC := by
  refine fnIs (C := (ctrsJ Try.prog n2 iN2 4)) (by kernel_rfl) (cokJ (by kernel_rfl) n2_ok iN2_ok) Try.func37 (code := code37) (by kernel_rfl) (by kernel_rfl) ?_
  rintro a ⟨f, rfl⟩
  exact ⟨anns [], kcast (vc37 f) (by kernel_rfl)⟩

noncomputable def code39 : Code := match Try.f39.body with | some c => c | none => .skip
set_option maxHeartbeats 4000000 in
theorem vc39 : ∀ (q : QuR) (p : PieR) (_bs : List Nat), okQ q → sm p.bytes.length → True ∧ sw (!decide ((↑p.bytes.length : Int) = (0 : Int))) (SV.p (4 : Nat) (6 : Nat) = SV.p (4 : Nat) (6 : Nat)) True ∧
  sw (!decide ((↑p.bytes.length : Int) = (0 : Int))) ([!decide ((↑p.bytes.length : Int) = (0 : Int))] = [!decide ((↑p.bytes.length : Int) = (0 : Int))] ∧
  SV.a (3 : Nat) = SV.a (3 : Nat)) True ∧ sw (!decide ((↑p.bytes.length : Int) = (0 : Int))) ([!decide ((↑p.bytes.length : Int) = (0 : Int))] = [!decide ((↑p.bytes.length : Int) = (0 : Int))] ∧
  SV.c (Value.int IntKind.i64 (↑p.bytes.length : Int)) = SV.c (Value.int IntKind.i64 (↑p.bytes.length : Int))) True ∧ sw (!decide ((↑p.bytes.length : Int) = (0 : Int))) ([!decide ((↑p.bytes.length : Int) = (0 : Int))] = [!decide ((↑p.bytes.length : Int) = (0 : Int))] ∧
  True ∧ SV.c (Value.bool (decide ((256 : Int) < (↑p.bytes.length : Int)))) = SV.c (Value.bool (decide ((256 : Int) < (↑p.bytes.length : Int))))) True ∧ [!decide ((↑p.bytes.length : Int) = (0 : Int))] = [!decide ((↑p.bytes.length : Int) = (0 : Int))] ∧
  sw (decide ((↑p.bytes.length : Int) = (0 : Int)) || decide ((256 : Int) < (↑p.bytes.length : Int))) (q.next = (pushQ (QuR.mk q.next (piesOf (D.recs (7 : Nat) q.wait.length (pieCell q.wait))) (itsOf q.out.length (itCell q.out))) p).fst.next ∧
  (q.wait.length = (pushQ (QuR.mk q.next (piesOf (D.recs (7 : Nat) q.wait.length (pieCell q.wait))) (itsOf q.out.length (itCell q.out))) p).fst.wait.length ∧
  ∀ (i : Nat), i < q.wait.length → ∀ (j : Nat), j < (7 : Nat) → pieCell q.wait i j = pieCell (pushQ (QuR.mk q.next (piesOf (D.recs (7 : Nat) q.wait.length (pieCell q.wait))) (itsOf q.out.length (itCell q.out))) p).fst.wait i j) ∧
  (q.out.length = (pushQ (QuR.mk q.next (piesOf (D.recs (7 : Nat) q.wait.length (pieCell q.wait))) (itsOf q.out.length (itCell q.out))) p).fst.out.length ∧
  (∀ (i : Nat), i < (pushQ (QuR.mk q.next (piesOf (D.recs (7 : Nat) q.wait.length (pieCell q.wait))) (itsOf q.out.length (itCell q.out))) p).fst.out.length →
  ∀ (j : Nat), j < (11 : Nat) → itCell q.out i j = itCell (pushQ (QuR.mk q.next (piesOf (D.recs (7 : Nat) q.wait.length (pieCell q.wait))) (itsOf q.out.length (itCell q.out))) p).fst.out i j) ∧
  True) ∧ (0 : Int) = (pushQ (QuR.mk q.next (piesOf (D.recs (7 : Nat) q.wait.length (pieCell q.wait))) (itsOf q.out.length (itCell q.out))) p).snd.fst ∧ (2 : Int) = (pushQ (QuR.mk q.next (piesOf (D.recs (7 : Nat) q.wait.length (pieCell q.wait))) (itsOf q.out.length (itCell q.out))) p).snd.snd ∧
  (!(Nat.beq (0 : Nat) (2 : Nat) || (Nat.beq (1 : Nat) (2 : Nat) || false)) && (!(Nat.beq (1 : Nat) (0 : Nat) || false) && (!false && true)) && true) = true) (True ∧
  True ∧ sw (decide ((256 : Int) ≤ IntKind.i64.wrap ((↑q.wait.length : Int) + (↑q.out.length : Int)))) (q.next = (pushQ (QuR.mk q.next (piesOf (D.recs (7 : Nat) q.wait.length (pieCell q.wait))) (itsOf q.out.length (itCell q.out))) p).fst.next ∧
  (q.wait.length = (pushQ (QuR.mk q.next (piesOf (D.recs (7 : Nat) q.wait.length (pieCell q.wait))) (itsOf q.out.length (itCell q.out))) p).fst.wait.length ∧
  ∀ (i : Nat), i < q.wait.length → ∀ (j : Nat), j < (7 : Nat) → pieCell q.wait i j = pieCell (pushQ (QuR.mk q.next (piesOf (D.recs (7 : Nat) q.wait.length (pieCell q.wait))) (itsOf q.out.length (itCell q.out))) p).fst.wait i j) ∧
  (q.out.length = (pushQ (QuR.mk q.next (piesOf (D.recs (7 : Nat) q.wait.length (pieCell q.wait))) (itsOf q.out.length (itCell q.out))) p).fst.out.length ∧
  (∀ (i : Nat), i < (pushQ (QuR.mk q.next (piesOf (D.recs (7 : Nat) q.wait.length (pieCell q.wait))) (itsOf q.out.length (itCell q.out))) p).fst.out.length →
  ∀ (j : Nat), j < (11 : Nat) → itCell q.out i j = itCell (pushQ (QuR.mk q.next (piesOf (D.recs (7 : Nat) q.wait.length (pieCell q.wait))) (itsOf q.out.length (itCell q.out))) p).fst.out i j) ∧
  True) ∧ (0 : Int) = (pushQ (QuR.mk q.next (piesOf (D.recs (7 : Nat) q.wait.length (pieCell q.wait))) (itsOf q.out.length (itCell q.out))) p).snd.fst ∧ (10 : Int) = (pushQ (QuR.mk q.next (piesOf (D.recs (7 : Nat) q.wait.length (pieCell q.wait))) (itsOf q.out.length (itCell q.out))) p).snd.snd ∧
  (!(Nat.beq (0 : Nat) (2 : Nat) || (Nat.beq (1 : Nat) (2 : Nat) || false)) && (!(Nat.beq (1 : Nat) (0 : Nat) || false) && (!false && true)) && true) = true) ((∃ (l : List Int), [O.d (D.ints IntKind.u8 p.bytes)] = [O.d (D.ints IntKind.u8 l)] ∧
  sm l.length) ∧ True ∧ ((True ∧ (q.wait.length + (1 : Nat)) * Try.prog.types[(86 : Nat)].bytes ≤ (140737488355328 : Nat) ∧ (IntKind.u32.wrap (q.next + (1 : Int)) = (pushQ (QuR.mk q.next (piesOf (D.recs (7 : Nat) q.wait.length (pieCell q.wait))) (itsOf q.out.length (itCell q.out))) p).fst.next ∧
  (q.wait.length + (1 : Nat) = (pushQ (QuR.mk q.next (piesOf (D.recs (7 : Nat) q.wait.length (pieCell q.wait))) (itsOf q.out.length (itCell q.out))) p).fst.wait.length ∧
  ∀ (i : Nat), i < q.wait.length + (1 : Nat) → ∀ (j : Nat), j < (7 : Nat) → (bif i.blt q.wait.length then pieCell q.wait i j else [D.v (Value.int IntKind.u32 q.next), D.v (Value.int IntKind.u16 p.str), D.v (Value.int IntKind.u16 p.seq), D.v (Value.bool p.b), D.v (Value.bool p.e), D.v (Value.bool p.u), D.ints IntKind.u8 p.bytes].getD ((i - q.wait.length) * Try.prog.types[(86 : Nat)].size + j) (D.v undef)) = pieCell (pushQ (QuR.mk q.next (piesOf (D.recs (7 : Nat) q.wait.length (pieCell q.wait))) (itsOf q.out.length (itCell q.out))) p).fst.wait i j) ∧
  (q.out.length = (pushQ (QuR.mk q.next (piesOf (D.recs (7 : Nat) q.wait.length (pieCell q.wait))) (itsOf q.out.length (itCell q.out))) p).fst.out.length ∧
  (∀ (i : Nat), i < (pushQ (QuR.mk q.next (piesOf (D.recs (7 : Nat) q.wait.length (pieCell q.wait))) (itsOf q.out.length (itCell q.out))) p).fst.out.length →
  ∀ (j : Nat), j < (11 : Nat) → itCell q.out i j = itCell (pushQ (QuR.mk q.next (piesOf (D.recs (7 : Nat) q.wait.length (pieCell q.wait))) (itsOf q.out.length (itCell q.out))) p).fst.out i j) ∧
  True) ∧ q.next = (pushQ (QuR.mk q.next (piesOf (D.recs (7 : Nat) q.wait.length (pieCell q.wait))) (itsOf q.out.length (itCell q.out))) p).snd.fst ∧ (0 : Int) = (pushQ (QuR.mk q.next (piesOf (D.recs (7 : Nat) q.wait.length (pieCell q.wait))) (itsOf q.out.length (itCell q.out))) p).snd.snd ∧
  (!(Nat.beq (7 : Nat) (2 : Nat) || (Nat.beq (1 : Nat) (2 : Nat) || false)) && (!(Nat.beq (1 : Nat) (7 : Nat) || false) && (!false && true)) && true) = true) ∧
  True) ∧ True) ∧ True)) := by
  simp only [↓sw_iff, ↓Bool.and_eq_true, ↓decide_eq_true_eq, ↓decide_eq_false_iff_not, ↓Bool.not_eq_true', ↓Bool.not_eq_false', true_and, and_true, implies_true, Bool.or_false, Nat.beq, piesOf_pies, itsOf_its, qu_eta]
  intro q p bs hq hp
  have hw : IntKind.i64.wrap ((q.wait.length : Int) + q.out.length) = (q.wait.length : Int) + q.out.length := wrap_i64_id (by omega) (by have := hq.2.1; omega)
  rw [hw]
  refine ⟨fun h => ?_, fun h => ?_⟩
  · have h' : p.bytes.length = 0 ∨ 256 < p.bytes.length := by
      simp only [Bool.or_eq_true, decide_eq_true_eq] at h
      omega
    rw [push_1 h']
    repeat' (first | exact rfl | (intros; rfl) | constructor)
  · have h' : ¬ (p.bytes.length = 0 ∨ 256 < p.bytes.length) := by
      simp only [Bool.or_eq_false_iff, decide_eq_false_iff_not] at h
      omega
    refine ⟨fun h2 => ?_, fun h2 => ?_⟩
    · rw [push_2 h' (by omega)]
      repeat' (first | exact rfl | (intros; rfl) | constructor)
    · rw [push_3 h' (by omega)]
      refine ⟨⟨_, rfl, hp⟩, by rw [bytes86]; omega, IntKind.wrap_u32 _, ⟨by simp, fun i hi j hj => ?_⟩, ⟨rfl, fun i hi j hj => rfl⟩, rfl, rfl⟩
      rw [size86, pieCell_app _ _ hi hj]
set_option maxRecDepth 100000 in
theorem ok39 : FnIs Try.prog 39 pushQC := by
  refine fnIs (C := (ctrsJ Try.prog n2 iN2 4)) (by kernel_rfl) (cokJ (by kernel_rfl) n2_ok iN2_ok) Try.func39 (code := code39) (by kernel_rfl) (by kernel_rfl) ?_
  rintro a ⟨bs, q, p, rfl, h, hp⟩
  exact ⟨anns [], kcast (vc39 q p bs h hp) (by kernel_rfl)⟩

noncomputable def code40 : Code := match Try.f40.body with | some c => c | none => .skip
set_option maxHeartbeats 4000000 in
theorem vc40 : ∀ (q : QuR) (p : Int) (bs : List Nat), okQ q → (∃ (l : List ItR), [O.d (D.recs (1 : Nat) q.out.length fun (i _x : Nat) => D.ptr (171 : Nat) (11 : Nat) (itCell q.out i)), O.d (D.fn (84 : Nat) (0 : Nat) (0 : Nat) fun (i : Nat) => [].getD i (D.v undef))] = [O.d (D.recs (1 : Nat) l.length fun (i _x : Nat) => D.ptr (171 : Nat) (11 : Nat) (itCell l i)), O.d (D.fn (84 : Nat) (0 : Nat) (0 : Nat) fun (i : Nat) => [].getD i (D.v undef))] ∧
  l.length ≤ (256 : Nat)) ∧ True ∧ sw (decide (idxO (markQ (List.map (fun (i : Nat) => ItR.mk (pieAt (itCell q.out i)) (q.out.getD i noIt).path (q.out.getD i noIt).missed (q.out.getD i noIt).heard (q.out.getD i noIt).marked) (List.range q.out.length))) < (0 : Int))) (True ∧
  sw (decide ((↑q.wait.length : Int) = (0 : Int))) (q.next = (nextQ (QuR.mk q.next (piesOf (D.recs (7 : Nat) q.wait.length (pieCell q.wait))) (itsOf q.out.length (itCell q.out))) p).fst.next ∧
  (q.wait.length = (nextQ (QuR.mk q.next (piesOf (D.recs (7 : Nat) q.wait.length (pieCell q.wait))) (itsOf q.out.length (itCell q.out))) p).fst.wait.length ∧
  ∀ (i : Nat), i < q.wait.length → ∀ (j : Nat), j < (7 : Nat) → pieCell q.wait i j = pieCell (nextQ (QuR.mk q.next (piesOf (D.recs (7 : Nat) q.wait.length (pieCell q.wait))) (itsOf q.out.length (itCell q.out))) p).fst.wait i j) ∧
  (q.out.length = (nextQ (QuR.mk q.next (piesOf (D.recs (7 : Nat) q.wait.length (pieCell q.wait))) (itsOf q.out.length (itCell q.out))) p).fst.out.length ∧
  (∀ (i : Nat), i < (nextQ (QuR.mk q.next (piesOf (D.recs (7 : Nat) q.wait.length (pieCell q.wait))) (itsOf q.out.length (itCell q.out))) p).fst.out.length →
  ∀ (j : Nat), j < (11 : Nat) → itCell q.out i j = itCell (nextQ (QuR.mk q.next (piesOf (D.recs (7 : Nat) q.wait.length (pieCell q.wait))) (itsOf q.out.length (itCell q.out))) p).fst.out i j) ∧
  True) ∧ (0 : Int) = (nextQ (QuR.mk q.next (piesOf (D.recs (7 : Nat) q.wait.length (pieCell q.wait))) (itsOf q.out.length (itCell q.out))) p).snd.fst.tsn ∧
  (0 : Int) = (nextQ (QuR.mk q.next (piesOf (D.recs (7 : Nat) q.wait.length (pieCell q.wait))) (itsOf q.out.length (itCell q.out))) p).snd.fst.str ∧ (0 : Int) = (nextQ (QuR.mk q.next (piesOf (D.recs (7 : Nat) q.wait.length (pieCell q.wait))) (itsOf q.out.length (itCell q.out))) p).snd.fst.seq ∧
  false = (nextQ (QuR.mk q.next (piesOf (D.recs (7 : Nat) q.wait.length (pieCell q.wait))) (itsOf q.out.length (itCell q.out))) p).snd.fst.b ∧ false = (nextQ (QuR.mk q.next (piesOf (D.recs (7 : Nat) q.wait.length (pieCell q.wait))) (itsOf q.out.length (itCell q.out))) p).snd.fst.e ∧
  false = (nextQ (QuR.mk q.next (piesOf (D.recs (7 : Nat) q.wait.length (pieCell q.wait))) (itsOf q.out.length (itCell q.out))) p).snd.fst.u ∧ (nextQ (QuR.mk q.next (piesOf (D.recs (7 : Nat) q.wait.length (pieCell q.wait))) (itsOf q.out.length (itCell q.out))) p).snd.fst.bytes = [] ∧
  false = (nextQ (QuR.mk q.next (piesOf (D.recs (7 : Nat) q.wait.length (pieCell q.wait))) (itsOf q.out.length (itCell q.out))) p).snd.snd ∧ (!(Nat.beq (0 : Nat) (2 : Nat) || (Nat.beq (1 : Nat) (2 : Nat) || false)) && (!(Nat.beq (1 : Nat) (0 : Nat) || false) && (!false && true)) && true) = true) (((0 : Int) ≤ (0 : Int) ∧
  (0 : Int) < (↑q.wait.length : Int)) ∧ ((((q.out.length + (1 : Nat)) * Try.prog.types[(169 : Nat)].bytes ≤ (140737488355328 : Nat) ∧ ∀ (b : Nat), ((0 : Nat) < q.wait.length ∧
  ((0 : Int) ≤ (↑q.out.length : Int) ∧ (↑q.out.length : Int) < (↑(q.out.length + (1 : Nat)) : Int)) ∧ ∀ (b_1 : Nat), (bs ++ [b])[(↑q.out.length : Int).toNat]? = some b_1 →
  (bs ++ [b])[(↑q.out.length : Int).toNat]? = some b_1 ∧ (bs ++ [b])[(↑q.out.length : Int).toNat]? = some b_1 ∧ (bs ++ [b])[(↑q.out.length : Int).toNat]? = some b_1 ∧
  (bs ++ [b])[(↑q.out.length : Int).toNat]? = some b_1 ∧ (∃ (l : List Int), [O.d (D.ints IntKind.u8 (bif (↑q.out.length : Int).toNat.beq q.out.length then (q.wait.getD (Int.toNat (0 : Int)) noPie).bytes else (q.out.getD (↑q.out.length : Int).toNat noIt).pc.bytes))] = [O.d (D.ints IntKind.u8 l)] ∧
  sm l.length) ∧ q.next = (nextQ (QuR.mk q.next (piesOf (D.recs (7 : Nat) q.wait.length (pieCell q.wait))) (itsOf q.out.length (itCell q.out))) p).fst.next ∧
  (q.wait.length - (1 : Nat) = (nextQ (QuR.mk q.next (piesOf (D.recs (7 : Nat) q.wait.length (pieCell q.wait))) (itsOf q.out.length (itCell q.out))) p).fst.wait.length ∧
  ∀ (i : Nat), i < q.wait.length - (1 : Nat) → ∀ (j : Nat), j < (7 : Nat) → pieCell q.wait ((1 : Nat) + i) j = pieCell (nextQ (QuR.mk q.next (piesOf (D.recs (7 : Nat) q.wait.length (pieCell q.wait))) (itsOf q.out.length (itCell q.out))) p).fst.wait i j) ∧
  (q.out.length + (1 : Nat) = (nextQ (QuR.mk q.next (piesOf (D.recs (7 : Nat) q.wait.length (pieCell q.wait))) (itsOf q.out.length (itCell q.out))) p).fst.out.length ∧
  (∀ (i : Nat), i < (nextQ (QuR.mk q.next (piesOf (D.recs (7 : Nat) q.wait.length (pieCell q.wait))) (itsOf q.out.length (itCell q.out))) p).fst.out.length →
  ∀ (j : Nat), j < (11 : Nat) → setRecM (setRecM (setRecM (setRecM (itCell q.out) q.out.length (0 : Nat) [D.v (Value.int IntKind.u32 (q.wait.getD (Int.toNat (0 : Int)) noPie).tsn), D.v (Value.int IntKind.u16 (q.wait.getD (Int.toNat (0 : Int)) noPie).str), D.v (Value.int IntKind.u16 (q.wait.getD (Int.toNat (0 : Int)) noPie).seq), D.v (Value.bool (q.wait.getD (Int.toNat (0 : Int)) noPie).b), D.v (Value.bool (q.wait.getD (Int.toNat (0 : Int)) noPie).e), D.v (Value.bool (q.wait.getD (Int.toNat (0 : Int)) noPie).u), D.ints IntKind.u8 (q.wait.getD (Int.toNat (0 : Int)) noPie).bytes, D.v (Value.int IntKind.i64 (0 : Int)), D.v (Value.int IntKind.i64 (0 : Int)), D.v (Value.bool false), D.v (Value.bool false)]) (↑q.out.length : Int).toNat (7 : Nat) [D.v (Value.int IntKind.i64 p)]) (↑q.out.length : Int).toNat (10 : Nat) [D.v (Value.bool false)]) (↑q.out.length : Int).toNat (8 : Nat) [D.v (Value.int IntKind.i64 (0 : Int))] i j = itCell (nextQ (QuR.mk q.next (piesOf (D.recs (7 : Nat) q.wait.length (pieCell q.wait))) (itsOf q.out.length (itCell q.out))) p).fst.out i j) ∧
  True) ∧ (bif (↑q.out.length : Int).toNat.beq q.out.length then (q.wait.getD (Int.toNat (0 : Int)) noPie).tsn else (q.out.getD (↑q.out.length : Int).toNat noIt).pc.tsn) = (nextQ (QuR.mk q.next (piesOf (D.recs (7 : Nat) q.wait.length (pieCell q.wait))) (itsOf q.out.length (itCell q.out))) p).snd.fst.tsn ∧
  (bif (↑q.out.length : Int).toNat.beq q.out.length then (q.wait.getD (Int.toNat (0 : Int)) noPie).str else (q.out.getD (↑q.out.length : Int).toNat noIt).pc.str) = (nextQ (QuR.mk q.next (piesOf (D.recs (7 : Nat) q.wait.length (pieCell q.wait))) (itsOf q.out.length (itCell q.out))) p).snd.fst.str ∧
  (bif (↑q.out.length : Int).toNat.beq q.out.length then (q.wait.getD (Int.toNat (0 : Int)) noPie).seq else (q.out.getD (↑q.out.length : Int).toNat noIt).pc.seq) = (nextQ (QuR.mk q.next (piesOf (D.recs (7 : Nat) q.wait.length (pieCell q.wait))) (itsOf q.out.length (itCell q.out))) p).snd.fst.seq ∧
  (bif (↑q.out.length : Int).toNat.beq q.out.length then (q.wait.getD (Int.toNat (0 : Int)) noPie).b else (q.out.getD (↑q.out.length : Int).toNat noIt).pc.b) = (nextQ (QuR.mk q.next (piesOf (D.recs (7 : Nat) q.wait.length (pieCell q.wait))) (itsOf q.out.length (itCell q.out))) p).snd.fst.b ∧
  (bif (↑q.out.length : Int).toNat.beq q.out.length then (q.wait.getD (Int.toNat (0 : Int)) noPie).e else (q.out.getD (↑q.out.length : Int).toNat noIt).pc.e) = (nextQ (QuR.mk q.next (piesOf (D.recs (7 : Nat) q.wait.length (pieCell q.wait))) (itsOf q.out.length (itCell q.out))) p).snd.fst.e ∧
  (bif (↑q.out.length : Int).toNat.beq q.out.length then (q.wait.getD (Int.toNat (0 : Int)) noPie).u else (q.out.getD (↑q.out.length : Int).toNat noIt).pc.u) = (nextQ (QuR.mk q.next (piesOf (D.recs (7 : Nat) q.wait.length (pieCell q.wait))) (itsOf q.out.length (itCell q.out))) p).snd.fst.u ∧
  (bif (↑q.out.length : Int).toNat.beq q.out.length then (q.wait.getD (Int.toNat (0 : Int)) noPie).bytes else (q.out.getD (↑q.out.length : Int).toNat noIt).pc.bytes) = (nextQ (QuR.mk q.next (piesOf (D.recs (7 : Nat) q.wait.length (pieCell q.wait))) (itsOf q.out.length (itCell q.out))) p).snd.fst.bytes ∧
  true = (nextQ (QuR.mk q.next (piesOf (D.recs (7 : Nat) q.wait.length (pieCell q.wait))) (itsOf q.out.length (itCell q.out))) p).snd.snd ∧ (!(Nat.beq (8 : Nat) (2 : Nat) || (Nat.beq (7 : Nat) (2 : Nat) || (Nat.beq (11 : Nat) (2 : Nat) || false))) && (!(Nat.beq (7 : Nat) (8 : Nat) || (Nat.beq (11 : Nat) (8 : Nat) || false)) && (!(Nat.beq (11 : Nat) (7 : Nat) || false) && (!false && true))) && true) = true) ∧
  True) ∧ True) ∧ True) ∧ True)) (((0 : Int) ≤ idxO (markQ (List.map (fun (i : Nat) => ItR.mk (pieAt (itCell q.out i)) (q.out.getD i noIt).path (q.out.getD i noIt).missed (q.out.getD i noIt).heard (q.out.getD i noIt).marked) (List.range q.out.length))) ∧
  idxO (markQ (List.map (fun (i : Nat) => ItR.mk (pieAt (itCell q.out i)) (q.out.getD i noIt).path (q.out.getD i noIt).missed (q.out.getD i noIt).heard (q.out.getD i noIt).marked) (List.range q.out.length))) < (↑q.out.length : Int)) ∧
  ∀ (b : Nat), bs[(idxO (markQ (List.map (fun (i : Nat) => ItR.mk (pieAt (itCell q.out i)) (q.out.getD i noIt).path (q.out.getD i noIt).missed (q.out.getD i noIt).heard (q.out.getD i noIt).marked) (List.range q.out.length)))).toNat]? = some b →
  bs[(idxO (markQ (List.map (fun (i : Nat) => ItR.mk (pieAt (itCell q.out i)) (q.out.getD i noIt).path (q.out.getD i noIt).missed (q.out.getD i noIt).heard (q.out.getD i noIt).marked) (List.range q.out.length)))).toNat]? = some b ∧
  bs[(idxO (markQ (List.map (fun (i : Nat) => ItR.mk (pieAt (itCell q.out i)) (q.out.getD i noIt).path (q.out.getD i noIt).missed (q.out.getD i noIt).heard (q.out.getD i noIt).marked) (List.range q.out.length)))).toNat]? = some b ∧
  bs[(idxO (markQ (List.map (fun (i : Nat) => ItR.mk (pieAt (itCell q.out i)) (q.out.getD i noIt).path (q.out.getD i noIt).missed (q.out.getD i noIt).heard (q.out.getD i noIt).marked) (List.range q.out.length)))).toNat]? = some b ∧
  bs[(idxO (markQ (List.map (fun (i : Nat) => ItR.mk (pieAt (itCell q.out i)) (q.out.getD i noIt).path (q.out.getD i noIt).missed (q.out.getD i noIt).heard (q.out.getD i noIt).marked) (List.range q.out.length)))).toNat]? = some b ∧
  (∃ (l : List Int), [O.d (D.ints IntKind.u8 (q.out.getD (idxO (markQ (List.map (fun (i : Nat) => ItR.mk (pieAt (itCell q.out i)) (q.out.getD i noIt).path (q.out.getD i noIt).missed (q.out.getD i noIt).heard (q.out.getD i noIt).marked) (List.range q.out.length)))).toNat noIt).pc.bytes)] = [O.d (D.ints IntKind.u8 l)] ∧
  sm l.length) ∧ q.next = (nextQ (QuR.mk q.next (piesOf (D.recs (7 : Nat) q.wait.length (pieCell q.wait))) (itsOf q.out.length (itCell q.out))) p).fst.next ∧
  (q.wait.length = (nextQ (QuR.mk q.next (piesOf (D.recs (7 : Nat) q.wait.length (pieCell q.wait))) (itsOf q.out.length (itCell q.out))) p).fst.wait.length ∧
  ∀ (i : Nat), i < q.wait.length → ∀ (j : Nat), j < (7 : Nat) → pieCell q.wait i j = pieCell (nextQ (QuR.mk q.next (piesOf (D.recs (7 : Nat) q.wait.length (pieCell q.wait))) (itsOf q.out.length (itCell q.out))) p).fst.wait i j) ∧
  (q.out.length = (nextQ (QuR.mk q.next (piesOf (D.recs (7 : Nat) q.wait.length (pieCell q.wait))) (itsOf q.out.length (itCell q.out))) p).fst.out.length ∧
  (∀ (i : Nat), i < (nextQ (QuR.mk q.next (piesOf (D.recs (7 : Nat) q.wait.length (pieCell q.wait))) (itsOf q.out.length (itCell q.out))) p).fst.out.length →
  ∀ (j : Nat), j < (11 : Nat) → setRecM (setRecM (setRecM (itCell q.out) (idxO (markQ (List.map (fun (i : Nat) => ItR.mk (pieAt (itCell q.out i)) (q.out.getD i noIt).path (q.out.getD i noIt).missed (q.out.getD i noIt).heard (q.out.getD i noIt).marked) (List.range q.out.length)))).toNat (7 : Nat) [D.v (Value.int IntKind.i64 p)]) (idxO (markQ (List.map (fun (i : Nat) => ItR.mk (pieAt (itCell q.out i)) (q.out.getD i noIt).path (q.out.getD i noIt).missed (q.out.getD i noIt).heard (q.out.getD i noIt).marked) (List.range q.out.length)))).toNat (10 : Nat) [D.v (Value.bool false)]) (idxO (markQ (List.map (fun (i : Nat) => ItR.mk (pieAt (itCell q.out i)) (q.out.getD i noIt).path (q.out.getD i noIt).missed (q.out.getD i noIt).heard (q.out.getD i noIt).marked) (List.range q.out.length)))).toNat (8 : Nat) [D.v (Value.int IntKind.i64 (0 : Int))] i j = itCell (nextQ (QuR.mk q.next (piesOf (D.recs (7 : Nat) q.wait.length (pieCell q.wait))) (itsOf q.out.length (itCell q.out))) p).fst.out i j) ∧
  True) ∧ (q.out.getD (idxO (markQ (List.map (fun (i : Nat) => ItR.mk (pieAt (itCell q.out i)) (q.out.getD i noIt).path (q.out.getD i noIt).missed (q.out.getD i noIt).heard (q.out.getD i noIt).marked) (List.range q.out.length)))).toNat noIt).pc.tsn = (nextQ (QuR.mk q.next (piesOf (D.recs (7 : Nat) q.wait.length (pieCell q.wait))) (itsOf q.out.length (itCell q.out))) p).snd.fst.tsn ∧
  (q.out.getD (idxO (markQ (List.map (fun (i : Nat) => ItR.mk (pieAt (itCell q.out i)) (q.out.getD i noIt).path (q.out.getD i noIt).missed (q.out.getD i noIt).heard (q.out.getD i noIt).marked) (List.range q.out.length)))).toNat noIt).pc.str = (nextQ (QuR.mk q.next (piesOf (D.recs (7 : Nat) q.wait.length (pieCell q.wait))) (itsOf q.out.length (itCell q.out))) p).snd.fst.str ∧
  (q.out.getD (idxO (markQ (List.map (fun (i : Nat) => ItR.mk (pieAt (itCell q.out i)) (q.out.getD i noIt).path (q.out.getD i noIt).missed (q.out.getD i noIt).heard (q.out.getD i noIt).marked) (List.range q.out.length)))).toNat noIt).pc.seq = (nextQ (QuR.mk q.next (piesOf (D.recs (7 : Nat) q.wait.length (pieCell q.wait))) (itsOf q.out.length (itCell q.out))) p).snd.fst.seq ∧
  (q.out.getD (idxO (markQ (List.map (fun (i : Nat) => ItR.mk (pieAt (itCell q.out i)) (q.out.getD i noIt).path (q.out.getD i noIt).missed (q.out.getD i noIt).heard (q.out.getD i noIt).marked) (List.range q.out.length)))).toNat noIt).pc.b = (nextQ (QuR.mk q.next (piesOf (D.recs (7 : Nat) q.wait.length (pieCell q.wait))) (itsOf q.out.length (itCell q.out))) p).snd.fst.b ∧
  (q.out.getD (idxO (markQ (List.map (fun (i : Nat) => ItR.mk (pieAt (itCell q.out i)) (q.out.getD i noIt).path (q.out.getD i noIt).missed (q.out.getD i noIt).heard (q.out.getD i noIt).marked) (List.range q.out.length)))).toNat noIt).pc.e = (nextQ (QuR.mk q.next (piesOf (D.recs (7 : Nat) q.wait.length (pieCell q.wait))) (itsOf q.out.length (itCell q.out))) p).snd.fst.e ∧
  (q.out.getD (idxO (markQ (List.map (fun (i : Nat) => ItR.mk (pieAt (itCell q.out i)) (q.out.getD i noIt).path (q.out.getD i noIt).missed (q.out.getD i noIt).heard (q.out.getD i noIt).marked) (List.range q.out.length)))).toNat noIt).pc.u = (nextQ (QuR.mk q.next (piesOf (D.recs (7 : Nat) q.wait.length (pieCell q.wait))) (itsOf q.out.length (itCell q.out))) p).snd.fst.u ∧
  (q.out.getD (idxO (markQ (List.map (fun (i : Nat) => ItR.mk (pieAt (itCell q.out i)) (q.out.getD i noIt).path (q.out.getD i noIt).missed (q.out.getD i noIt).heard (q.out.getD i noIt).marked) (List.range q.out.length)))).toNat noIt).pc.bytes = (nextQ (QuR.mk q.next (piesOf (D.recs (7 : Nat) q.wait.length (pieCell q.wait))) (itsOf q.out.length (itCell q.out))) p).snd.fst.bytes ∧
  true = (nextQ (QuR.mk q.next (piesOf (D.recs (7 : Nat) q.wait.length (pieCell q.wait))) (itsOf q.out.length (itCell q.out))) p).snd.snd ∧ (!(Nat.beq (0 : Nat) (2 : Nat) || (Nat.beq (1 : Nat) (2 : Nat) || (Nat.beq (6 : Nat) (2 : Nat) || false))) && (!(Nat.beq (1 : Nat) (0 : Nat) || (Nat.beq (6 : Nat) (0 : Nat) || false)) && (!(Nat.beq (6 : Nat) (1 : Nat) || false) && (!false && true))) && true) = true) := by
  simp only [↓sw_iff, ↓Bool.and_eq_true, ↓decide_eq_true_eq, ↓decide_eq_false_iff_not, ↓Bool.not_eq_true', true_and, and_true, Bool.or_false, Nat.beq, Int.toNat_natCast, piesOf_pies, itsOf_its, qu_eta, its_mk]
  intro q p bs hq
  have hl : q.out.length ≤ 256 := by have := hq.2.1; omega
  refine ⟨⟨q.out, rfl, hl⟩, ?_⟩
  cases hm : markQ q.out with
  | none =>
    refine ⟨fun _ => ?_, fun h => absurd (show idxO none < 0 by decide) h⟩
    cases hw : q.wait with
    | nil =>
      refine ⟨fun _ => ?_, fun h => absurd rfl h⟩
      rw [next_nil hm hw]
      simp only [hw]
      repeat' (first | exact rfl | (intros; first | rfl | trivial) | constructor)
    | cons x l =>
      refine ⟨fun h => absurd h (by simp; omega), fun _ => ⟨⟨by simp, by simp⟩, by rw [bytes169]; omega, fun b => ⟨by simp, ⟨by omega, by omega⟩, fun b1 hb1 => ⟨hb1, hb1, hb1, hb1, ?_⟩⟩⟩⟩
      rw [next_cons hm hw]
      have hx : x.bytes.length ≤ 256 := hq.2.2.1 x (by rw [hw]; simp)
      simp only [cond_eq_if, if_true, List.getD_cons_zero, Int.toNat_zero]
      refine ⟨⟨_, rfl, by unfold sm; omega⟩, trivial, ⟨by simp, fun i hi j hj => pieCell_tl x l i j⟩, ⟨by simp, fun i hi j hj => ?_⟩, ?_⟩
      · rw [List.length_append] at hi
        exact sent_cells q.out x p hi hj
      · repeat' (first | exact rfl | trivial | constructor)
  | some k =>
    have hk : k < q.out.length := mark_lt hm
    refine ⟨fun h => absurd h (by simp [idxO]), fun _ => ⟨⟨by simp [idxO], by simp [idxO]; omega⟩, fun b hb => ⟨hb, hb, hb, hb, ?_⟩⟩⟩
    rw [next_mark hm]
    have hx : (q.out.getD k noIt).pc.bytes.length ≤ 256 := (hq.2.2.2 _ (gd_mem hk noIt)).1
    simp only [idxO, Int.toNat_natCast]
    refine ⟨⟨_, rfl, by unfold sm; omega⟩, trivial, ⟨by simp, fun i hi j hj => trivial⟩, ⟨by simp, fun i hi j hj => ?_⟩, ?_⟩
    · exact again_cells q.out hk p hj
    · repeat' (first | exact rfl | trivial | constructor)
set_option maxRecDepth 100000 in
theorem ok40 : FnIs Try.prog 40 nextQC := by
  refine fnIs (C := (ctrsJ Try.prog n2 iN2 4)) (by kernel_rfl) (cokJ (by kernel_rfl) n2_ok iN2_ok) Try.func40 (code := code40) (by kernel_rfl) (by kernel_rfl) ?_
  rintro a ⟨bs, q, p, rfl, h⟩
  exact ⟨anns [], kcast (vc40 q p bs h) (by kernel_rfl)⟩

end Go.ZR

namespace Go.ZR
open Go.Proofs
open Go.Z Go.ZM Go.RowKit
set_option maxRecDepth 100000
noncomputable def iN2sc131 : Code := match Try.f131.body with | some c => c | none => .skip
noncomputable def iN2s_131 : InlF := ⟨iN2sc131, Try.f131.ntmps, Try.f131.results.toList, anns [] [] [(2, 1)]⟩
noncomputable def iN2sc132 : Code := match Try.f132.body with | some c => c | none => .skip
noncomputable def iN2s_132 : InlF := ⟨iN2sc132, Try.f132.ntmps, Try.f132.results.toList, anns []⟩
noncomputable def iN2sc170 : Code := match Try.f170.body with | some c => c | none => .skip
noncomputable def iN2s_170 : InlF := ⟨iN2sc170, Try.f170.ntmps, Try.f170.results.toList, anns [] [] [(1, 1), (4, 1)]⟩
noncomputable def iN2s : List (Nat × InlF) := [(131, iN2s_131), (132, iN2s_132), (170, iN2s_170)]
theorem iN2s_ok : InlsOk Try.prog iN2s := ⟨inlOk Try.func131 (by kernel_rfl) (by kernel_rfl), inlOk Try.func132 (by kernel_rfl) (by kernel_rfl), inlOk Try.func170 (by kernel_rfl) (by kernel_rfl), trivial⟩
noncomputable def code180 : Code := match Try.f180.body with | some c => c | none => .skip
set_option maxHeartbeats 4000000 in
theorem vc180a : True ∧ True ∧ True ∧ ((0 : Int) ≤ IntKind.u8.wrap (0 : Int) ∧ IntKind.u8.wrap (0 : Int) < (↑(256 : Nat) : Int)) ∧ True ∧ IntKind.i64.wrap ((0 : Int) + IntKind.i64.wrap (↑(0 : Nat) : Int)) = (0 : Int) ∧
  (true && true) = true := by
  decide

set_option maxHeartbeats 4000000 in
theorem vc180b : True ∧ True ∧ True ∧ ((0 : Int) ≤ IntKind.u8.wrap (1 : Int) ∧ IntKind.u8.wrap (1 : Int) < (↑(256 : Nat) : Int)) ∧ True ∧ IntKind.i64.wrap ((0 : Int) + IntKind.i64.wrap (↑(1 : Nat) : Int)) = (1 : Int) ∧
  (true && true) = true := by
  decide
theorem ok180 : FnIs Try.prog 180 lenC := by
  refine fnIs (C := (ctrs n0)) (by kernel_rfl) n0_ok Try.func180 (code := code180) (by kernel_rfl) (by kernel_rfl) ?_
  rintro a ⟨x, rfl, rfl | rfl⟩
  · exact ⟨anns [], kcast vc180a (by kernel_rfl)⟩
  · exact ⟨anns [], kcast vc180b (by kernel_rfl)⟩
theorem n2s_ok : COk Try.prog (ctrs n2s) := cok_cons ok180 cok_nil

noncomputable def code92 : Code := match Try.f92.body with | some c => c | none => .skip
set_option maxHeartbeats 4000000 in
theorem vc92a : (∃ (x : Int), [O.d (D.v (Value.int IntKind.u64 (IntKind.u64.wrap (↑(0 : Nat) : Int))))] = [O.d (D.v (Value.int IntKind.u64 x))] ∧ (x = (0 : Int) ∨ x = (1 : Int))) ∧
  True ∧ True ∧ True ∧ True ∧ ([] : List Int) = ([] : List Int) ∧ (!false && true && true) = true := by
  exact ⟨⟨0, rfl, .inl rfl⟩, trivial, trivial, trivial, trivial, rfl, rfl⟩

set_option maxHeartbeats 4000000 in
theorem vc92b : ∀ (x : Int), (∃ (x_1 : Int), [O.d (D.v (Value.int IntKind.u64 (IntKind.u64.wrap (↑(1 : Nat) : Int))))] = [O.d (D.v (Value.int IntKind.u64 x_1))] ∧ (x_1 = (0 : Int) ∨ x_1 = (1 : Int))) ∧
  True ∧ True ∧ True ∧ True ∧ [x] = [x] ∧ (!false && true && true) = true := by
  exact fun x => ⟨⟨1, rfl, .inr rfl⟩, trivial, trivial, trivial, trivial, rfl, rfl⟩
theorem ok92 : FnIs Try.prog 92 sort1C := by
  refine fnIs (C := (ctrsJ Try.prog n2s iN2s 4)) (by kernel_rfl) (cokJ (by kernel_rfl) n2s_ok iN2s_ok) Try.func92 (code := code92) (by kernel_rfl) (by kernel_rfl) ?_
  rintro a ⟨l, rfl, h⟩
  match l, h with
  | [], _ => exact ⟨anns [], kcast vc92a (by kernel_rfl)⟩
  | [x], _ => exact ⟨anns [], kcast (vc92b x) (by kernel_rfl)⟩
  | _ :: _ :: _, h => exact absurd h (by simp)

end Go.ZR

namespace Go.ZR
open Go.Z Go.ZM Go.Proofs
def n3 : List (Nat × Ctr) := (92, sort1C) :: n2
theorem n3_ok : COk Try.prog (ctrs n3) := cok_cons ok92 n2_ok
end Go.ZR
