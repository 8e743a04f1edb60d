/- Part 19 of what the closing text rests on. -/
import Derived.Test.YtlbfenfepmmihaaQ18
import Derived.Test.YtlbfenfepmmihaaRows
namespace Go.ZR
open Go.Proofs
open Go.Z Go.ZM Go.RowKit
set_option maxRecDepth 100000
theorem u32w (x : Int) : IntKind.u32.wrap x = u32 x := IntKind.wrap_u32 x
theorem u32_i64 (x : Int) : IntKind.i64.wrap (u32 x) = u32 x := by unfold u32; exact wrap_i64_id (by omega) (by omega)
theorem u32_len {n : Nat} (h : n ≤ 256) : u32 (n : Int) = n := by unfold u32; omega
theorem u32_r (x : Int) : 0 ≤ u32 x ∧ u32 x ≤ 4294967295 := by unfold u32; omega
theorem heard_1 {q : QuR} {h : HeaR} (e : apartF h.gaps = false) : heardQ q h = ⟨q, [], [], 2⟩ := by unfold heardQ; rw [if_pos e]
theorem heard_2 {q : QuR} {h : HeaR} (e : apartF h.gaps = true) (e2 : inQ q h = false) : heardQ q h = ⟨q, [], [], 15⟩ := by unfold heardQ; rw [if_neg (by rw [e]; decide), if_pos e2]
theorem heard_3 {q : QuR} {h : HeaR} (e : apartF h.gaps = true) (e2 : inQ q h = true) : heardQ q h = ⟨⟨q.next, q.wait, out3 q h⟩, ac2 q h (out1 q h).length, fast3 q h (last2 q h), 0⟩ := by
  unfold heardQ; rw [if_neg (by rw [e]; decide), if_neg (by rw [e2]; decide)]
theorem mapTo_len {α : Type} (f : Nat → α → α) (l : List α) (k : Nat) : (mapTo f l k).length = l.length := by
  unfold mapTo
  simp only [List.length_append, List.length_mapIdx, List.length_take, List.length_drop]
  omega
theorem mapTo_all {α : Type} (f : Nat → α → α) (l : List α) : mapTo f l l.length = l.mapIdx f := by
  unfold mapTo
  rw [List.take_length, List.drop_length, List.append_nil]
theorem mapTo_at {α : Type} (f : Nat → α → α) (l : List α) (k : Nat) (d : α) : (mapTo f l k).getD k d = l.getD k d := by
  unfold mapTo
  simp only [List.getD]
  by_cases h : k < l.length
  · rw [List.getElem?_append_right (by simp; omega), List.length_mapIdx, List.length_take, Nat.min_eq_left (by omega), Nat.sub_self, List.getElem?_drop]; rfl
  · rw [List.getElem?_eq_none (by simp; omega), List.getElem?_eq_none (by omega)]
theorem mapTo_succ {α : Type} (f : Nat → α → α) (l : List α) {k : Nat} (h : k < l.length) (d : α) : mapTo f l (k + 1) = (mapTo f l k).set k (f k (l.getD k d)) := by
  have e : l.getD k d = l[k] := by simp [List.getD, List.getElem?_eq_getElem h]
  rw [e]
  unfold mapTo
  rw [List.take_succ_eq_append_getElem h, List.mapIdx_append, List.set_append_right _ _ (by simp; omega)]
  simp only [List.length_mapIdx, List.length_take, Nat.min_eq_left (Nat.le_of_lt h), Nat.sub_self, List.mapIdx_cons, List.mapIdx_nil, Nat.zero_add]
  rw [List.append_assoc]
  congr 1
  rw [← List.getElem_cons_drop h]
  rfl
theorem fold_succ {α β : Type} (f : β → α → β) (b : β) (l : List α) {k : Nat} (h : k < l.length) (d : α) : (l.take (k + 1)).foldl f b = f ((l.take k).foldl f b) (l.getD k d) := by
  have e : l.getD k d = l[k] := by simp [List.getD, List.getElem?_eq_getElem h]
  rw [List.take_succ_eq_append_getElem h, List.foldl_append, e]
  rfl
theorem foldTo_succ {α β : Type} (f : Nat → β → α → β) (b : β) (l : List α) {k : Nat} (h : k < l.length) (d : α) : foldTo f b l (k + 1) = f k (foldTo f b l k) (l.getD k d) := by
  have e : l.getD k d = l[k] := by simp [List.getD, List.getElem?_eq_getElem h]
  unfold foldTo
  rw [List.take_succ_eq_append_getElem h, List.zipIdx_append, List.foldl_append, e]
  simp [Nat.min_eq_left (Nat.le_of_lt h)]
theorem noteA_len (ac : List Int) (x : ItR) : (noteA ac x).length = ac.length := by unfold noteA; split <;> simp
theorem ac1_len (q : QuR) : ∀ k, (ac1 q k).length = 2 := fun k => by
  unfold ac1
  suffices ∀ (l : List ItR) (b : List Int), b.length = 2 → (l.foldl noteA b).length = 2 from this _ _ rfl
  intro l
  induction l with
  | nil => exact fun b h => h
  | cons x l ih => exact fun b h => ih _ (by rw [noteA_len]; exact h)
theorem gapA_len (g : List (Int × Int)) (i : Nat) (ac : List Int) (x : ItR) : (gapA g i ac x).length = ac.length := by unfold gapA; split <;> simp [noteA_len]
theorem ac2_len (q : QuR) (h : HeaR) : ∀ k, (ac2 q h k).length = 2 := fun k => by
  unfold ac2 foldTo
  suffices ∀ (l : List (ItR × Nat)) (b : List Int), b.length = 2 → (l.foldl (fun b x => gapA h.gaps x.2 b x.1) b).length = 2 from this _ _ (ac1_len q _)
  intro l
  induction l with
  | nil => exact fun b h => h
  | cons x l ih => exact fun b h => ih _ (by rw [gapA_len]; exact h)
theorem cells3 (l : List ItR) {k : Nat} (hk : k < l.length) {i j : Nat} (hj : j < 11) (x : ItR) (F : Nat → Nat → D) (h0 : ∀ i, i ≠ k → ∀ j, F i j = itCell l i j) (h1 : ∀ j, j < 11 → F k j = itCell [x] 0 j) : F i j = itCell (l.set k x) i j := by
  rw [itCell_set hk]
  by_cases h : i = k
  · rw [h, if_pos rfl]; exact h1 j hj
  · rw [if_neg h]; exact h0 i h j
theorem note_cells (l : List ItR) {k : Nat} (hk : k < l.length) {i j : Nat} (hj : j < 11) : setRecM (setRecM (itCell l) k 9 [D.v (Value.bool true)]) k 10 [D.v (Value.bool false)] i j = itCell (l.set k (noteI (l.getD k noIt))) i j := by
  refine cells3 l hk hj _ _ (fun i h j => by simp only [sr1, h, false_and, if_false]) (fun j hj => ?_)
  simp only [sr1, true_and]
  match j, hj with
  | 0, _ => rfl
  | 1, _ => rfl
  | 2, _ => rfl
  | 3, _ => rfl
  | 4, _ => rfl
  | 5, _ => rfl
  | 6, _ => rfl
  | 7, _ => rfl
  | 8, _ => rfl
  | 9, _ => rfl
  | 10, _ => rfl
theorem dumb_cells (l : List ItR) {k : Nat} (hk : k < l.length) {i j : Nat} (hj : j < 11) : setRecM (itCell l) k 9 [D.v (Value.bool false)] i j = itCell (l.set k { l.getD k noIt with heard := false }) i j := by
  refine cells3 l hk hj _ _ (fun i h j => by simp only [sr1, h, false_and, if_false]) (fun j hj => ?_)
  simp only [sr1, true_and]
  match j, hj with
  | 0, _ => rfl
  | 1, _ => rfl
  | 2, _ => rfl
  | 3, _ => rfl
  | 4, _ => rfl
  | 5, _ => rfl
  | 6, _ => rfl
  | 7, _ => rfl
  | 8, _ => rfl
  | 9, _ => rfl
  | 10, _ => rfl
theorem miss_cells (l : List ItR) {k : Nat} (hk : k < l.length) {i j : Nat} (hj : j < 11) (m : Int) : setRecM (itCell l) k 8 [D.v (Value.int .i64 m)] i j = itCell (l.set k { l.getD k noIt with missed := m }) i j := by
  refine cells3 l hk hj _ _ (fun i h j => by simp only [sr1, h, false_and, if_false]) (fun j hj => ?_)
  simp only [sr1, true_and]
  match j, hj with
  | 0, _ => rfl
  | 1, _ => rfl
  | 2, _ => rfl
  | 3, _ => rfl
  | 4, _ => rfl
  | 5, _ => rfl
  | 6, _ => rfl
  | 7, _ => rfl
  | 8, _ => rfl
  | 9, _ => rfl
  | 10, _ => rfl
theorem fast_cells (l : List ItR) {k : Nat} (hk : k < l.length) {i j : Nat} (hj : j < 11) (m : Int) : setRecM (setRecM (setRecM (itCell l) k 8 [D.v (Value.int .i64 m)]) k 8 [D.v (Value.int .i64 0)]) k 10 [D.v (Value.bool true)] i j = itCell (l.set k { l.getD k noIt with missed := 0, marked := true }) i j := by
  refine cells3 l hk hj _ _ (fun i h j => by simp only [sr1, h, false_and, if_false]) (fun j hj => ?_)
  simp only [sr1, true_and]
  match j, hj with
  | 0, _ => rfl
  | 1, _ => rfl
  | 2, _ => rfl
  | 3, _ => rfl
  | 4, _ => rfl
  | 5, _ => rfl
  | 6, _ => rfl
  | 7, _ => rfl
  | 8, _ => rfl
  | 9, _ => rfl
  | 10, _ => rfl
theorem noteA_yes {ac : List Int} {x : ItR} (h : x.heard = false) (h0 : 0 ≤ x.path) (h2 : x.path < 2) : noteA ac x = ac.set x.path.toNat (IntKind.i64.wrap (ac.getD x.path.toNat 0 + x.pc.bytes.length)) := by
  unfold noteA i64w
  rw [if_pos ⟨h, h0, h2⟩]
theorem noteA_no {ac : List Int} {x : ItR} (h : (x.heard = true ∨ ¬ 0 ≤ x.path) ∨ ¬ x.path < 2) : noteA ac x = ac := by
  unfold noteA
  rw [if_neg]
  rintro ⟨a, b, c⟩
  rw [a] at h
  rcases h with (h | h) | h
  · cases h
  · exact h b
  · exact h c
theorem ac1_succ (q : QuR) {k : Nat} (h : k < q.out.length) : ac1 q (k + 1) = noteA (ac1 q k) (q.out.getD k noIt) := fold_succ noteA [0, 0] q.out h noIt
theorem ac2_succ (q : QuR) (h : HeaR) {k : Nat} (hk : k < (out1 q h).length) : ac2 q h (k + 1) = gapA h.gaps k (ac2 q h k) ((out1 q h).getD k noIt) := foldTo_succ _ _ _ hk noIt
theorem fast3_succ (q : QuR) (h : HeaR) {k : Nat} (hk : k < (out2 q h).length) : fast3 q h (k + 1) = missF (fast3 q h k) ((out2 q h).getD k noIt) := fold_succ missF [] (out2 q h) hk noIt
theorem lastG_r (g : List (Int × Int)) : ∀ k : Nat, -1 ≤ lastG g k ∧ lastG g k < k
  | 0 => ⟨Int.le_refl _, by show (-1 : Int) < 0; omega⟩
  | k + 1 => by
    have := lastG_r g k
    unfold lastG
    split <;> omega
theorem itCell_drop (l : List ItR) (k i : Nat) : itCell l (k + i) = itCell (l.drop k) i := by
  have : l.getD (k + i) noIt = (l.drop k).getD i noIt := by simp [List.getD]
  funext j
  unfold itCell
  rw [this]
theorem mapTo_drop {α : Type} (f : Nat → α → α) (l : List α) {k : Nat} (h : k ≤ l.length) : (mapTo f l k).drop k = l.drop k := by
  unfold mapTo
  rw [List.drop_append_of_le_length (by simp; omega), List.drop_of_length_le (by simp; omega)]
  rfl
theorem out1_len (q : QuR) (h : HeaR) : (out1 q h).length = q.out.length - doneQ q h := List.length_drop
theorem out2_len (q : QuR) (h : HeaR) : (out2 q h).length = q.out.length - doneQ q h := by unfold out2; rw [List.length_mapIdx, out1_len]
theorem out2_mem {q : QuR} {h : HeaR} {x : ItR} (hx : x ∈ out2 q h) : ∃ y ∈ q.out, x.path = y.path ∧ x.missed = y.missed ∧ x.pc = y.pc := by
  unfold out2 at hx
  rw [List.mem_mapIdx] at hx
  obtain ⟨i, hi, rfl⟩ := hx
  refine ⟨(out1 q h)[i], List.mem_of_mem_drop (List.getElem_mem hi), ?_⟩
  unfold gapI noteI
  split <;> exact ⟨rfl, rfl, rfl⟩
theorem fast3_one {q : QuR} {h : HeaR} (h1 : oneP q) : ∀ k, fast3 q h k = [] ∨ fast3 q h k = [0]
  | 0 => .inl rfl
  | k + 1 => by
    by_cases hk : k < (out2 q h).length
    · rw [fast3_succ q h hk]
      have hp : ((out2 q h).getD k noIt).path = 0 := by
        obtain ⟨y, hy, e, _⟩ := out2_mem (gd_mem hk noIt)
        rw [e]; exact h1 y hy
      unfold missF
      rw [hp]
      rcases fast3_one h1 k with e | e <;> rw [e] <;> split <;> simp_all
    · have : fast3 q h (k + 1) = fast3 q h k := by
        unfold fast3
        rw [List.take_of_length_le (by omega), List.take_of_length_le (by omega)]
      rw [this]
      exact fast3_one h1 k
theorem missI_no {x : ItR} (h : x.heard = true ∨ x.marked = true) : missI x = x ∧ ∀ f, missF f x = f := by
  have : fliesI x = false := by unfold fliesI; rcases h with h | h <;> simp [h]
  unfold missI missF
  simp [this]
theorem set_same {α : Type} (l : List α) (k : Nat) (d : α) : l.set k (l.getD k d) = l := by
  by_cases h : k < l.length
  · have : l.getD k d = l[k] := by simp [List.getD, List.getElem?_eq_getElem h]
    rw [this, List.set_getElem_self]
  · exact List.set_eq_of_length_le (by omega)
theorem bytes3 : Try.prog.types[(3 : Nat)].bytes = 8 := by kernel_rfl
noncomputable def iN3c85 : Code := match Try.f85.body with | some c => c | none => .skip
noncomputable def iN3_85 : InlF := ⟨iN3c85, Try.f85.ntmps, Try.f85.results.toList, anns []⟩
noncomputable def iN3c86 : Code := match Try.f86.body with | some c => c | none => .skip
noncomputable def iN3_86 : InlF := ⟨iN3c86, Try.f86.ntmps, Try.f86.results.toList, anns []⟩
noncomputable def iN3c87 : Code := match Try.f87.body with | some c => c | none => .skip
noncomputable def iN3_87 : InlF := ⟨iN3c87, Try.f87.ntmps, Try.f87.results.toList, anns []⟩
noncomputable def iN3c90 : Code := match Try.f90.body with | some c => c | none => .skip
noncomputable def iN3_90 : InlF := ⟨iN3c90, Try.f90.ntmps, Try.f90.results.toList, anns []⟩
noncomputable def iN3 : List (Nat × InlF) := [(85, iN3_85), (86, iN3_86), (87, iN3_87), (90, iN3_90)]
theorem iN3_ok : InlsOk Try.prog iN3 := ⟨inlOk Try.func85 (by kernel_rfl) (by kernel_rfl), inlOk Try.func86 (by kernel_rfl) (by kernel_rfl), inlOk Try.func87 (by kernel_rfl) (by kernel_rfl), inlOk Try.func90 (by kernel_rfl) (by kernel_rfl), trivial⟩
noncomputable def code41 : Code := match Try.f41.body with | some c => c | none => .skip
set_option maxHeartbeats 4000000 in
theorem vc41 : ∀ (q : QuR), let y := piesOf ([D.v (Value.int IntKind.u32 q.next), D.recs (7 : Nat) q.wait.length (pieCell q.wait), D.recs (1 : Nat) q.out.length fun (i _x : Nat) => D.ptr (171 : Nat) (11 : Nat) (itCell q.out i)].getD (1 : Nat) (D.v undef));
  let y_1 := cumQ (QuR.mk q.next y (List.map (fun (i : Nat) => ItR.mk (pieAt (itCell q.out i)) (q.out.getD i noIt).path (q.out.getD i noIt).missed (q.out.getD i noIt).heard (q.out.getD i noIt).marked) (List.range q.out.length)));
  ∀ (h : HeaR) (bs : List Nat), okQ q → oneP q → okHea h → (∃ (l : List (Int × Int)), [O.d (D.recs (2 : Nat) h.gaps.length (gapCell h.gaps))] = [O.d (D.recs (2 : Nat) l.length (gapCell l))] ∧
  okGs l) ∧ sw (!apartF (gapsOf (D.recs (2 : Nat) h.gaps.length (gapCell h.gaps)))) (q.next = (heardQ (QuR.mk q.next (piesOf (D.recs (7 : Nat) q.wait.length (pieCell q.wait))) (itsOf q.out.length (itCell q.out))) (HeaR.mk h.cum h.win (gapsOf (D.recs (2 : Nat) h.gaps.length (gapCell h.gaps))) h.dups)).q.next ∧
  (q.wait.length = (heardQ (QuR.mk q.next (piesOf (D.recs (7 : Nat) q.wait.length (pieCell q.wait))) (itsOf q.out.length (itCell q.out))) (HeaR.mk h.cum h.win (gapsOf (D.recs (2 : Nat) h.gaps.length (gapCell h.gaps))) h.dups)).q.wait.length ∧
  ∀ (i : Nat), i < q.wait.length → ∀ (j : Nat), j < (7 : Nat) → pieCell q.wait i j = pieCell (heardQ (QuR.mk q.next (piesOf (D.recs (7 : Nat) q.wait.length (pieCell q.wait))) (itsOf q.out.length (itCell q.out))) (HeaR.mk h.cum h.win (gapsOf (D.recs (2 : Nat) h.gaps.length (gapCell h.gaps))) h.dups)).q.wait i j) ∧
  (q.out.length = (heardQ (QuR.mk q.next (piesOf (D.recs (7 : Nat) q.wait.length (pieCell q.wait))) (itsOf q.out.length (itCell q.out))) (HeaR.mk h.cum h.win (gapsOf (D.recs (2 : Nat) h.gaps.length (gapCell h.gaps))) h.dups)).q.out.length ∧
  (∀ (i : Nat), i < (heardQ (QuR.mk q.next (piesOf (D.recs (7 : Nat) q.wait.length (pieCell q.wait))) (itsOf q.out.length (itCell q.out))) (HeaR.mk h.cum h.win (gapsOf (D.recs (2 : Nat) h.gaps.length (gapCell h.gaps))) h.dups)).q.out.length →
  ∀ (j : Nat), j < (11 : Nat) → itCell q.out i j = itCell (heardQ (QuR.mk q.next (piesOf (D.recs (7 : Nat) q.wait.length (pieCell q.wait))) (itsOf q.out.length (itCell q.out))) (HeaR.mk h.cum h.win (gapsOf (D.recs (2 : Nat) h.gaps.length (gapCell h.gaps))) h.dups)).q.out i j) ∧
  True) ∧ (heardQ (QuR.mk q.next (piesOf (D.recs (7 : Nat) q.wait.length (pieCell q.wait))) (itsOf q.out.length (itCell q.out))) (HeaR.mk h.cum h.win (gapsOf (D.recs (2 : Nat) h.gaps.length (gapCell h.gaps))) h.dups)).ac = [] ∧
  (heardQ (QuR.mk q.next (piesOf (D.recs (7 : Nat) q.wait.length (pieCell q.wait))) (itsOf q.out.length (itCell q.out))) (HeaR.mk h.cum h.win (gapsOf (D.recs (2 : Nat) h.gaps.length (gapCell h.gaps))) h.dups)).fast = [] ∧
  (2 : Int) = (heardQ (QuR.mk q.next (piesOf (D.recs (7 : Nat) q.wait.length (pieCell q.wait))) (itsOf q.out.length (itCell q.out))) (HeaR.mk h.cum h.win (gapsOf (D.recs (2 : Nat) h.gaps.length (gapCell h.gaps))) h.dups)).e ∧
  (!(Nat.beq (0 : Nat) (2 : Nat) || (Nat.beq (1 : Nat) (2 : Nat) || false)) && (!(Nat.beq (1 : Nat) (0 : Nat) || false) && (!false && true)) && true) = true) ((∃ (n : Int), ∃ (w : List PieR), ∃ (l : List ItR), [O.d (D.ptr (166 : Nat) [D.v (Value.int IntKind.u32 q.next), D.recs (7 : Nat) q.wait.length (pieCell q.wait), D.recs (1 : Nat) q.out.length fun (i _x : Nat) => D.ptr (171 : Nat) (11 : Nat) (itCell q.out i)].length fun (i : Nat) => [D.v (Value.int IntKind.u32 q.next), D.recs (7 : Nat) q.wait.length (pieCell q.wait), D.recs (1 : Nat) q.out.length fun (i _x : Nat) => D.ptr (171 : Nat) (11 : Nat) (itCell q.out i)].getD i (D.v undef))] = [O.d (D.ptr (166 : Nat) [D.v (Value.int IntKind.u32 n), D.recs (7 : Nat) w.length (pieCell w), D.recs (1 : Nat) l.length fun (i _x : Nat) => D.ptr (171 : Nat) (11 : Nat) (itCell l i)].length fun (i : Nat) => [D.v (Value.int IntKind.u32 n), D.recs (7 : Nat) w.length (pieCell w), D.recs (1 : Nat) l.length fun (i _x : Nat) => D.ptr (171 : Nat) (11 : Nat) (itCell l i)].getD i (D.v undef))] ∧
  w.length + l.length ≤ (256 : Nat)) ∧ True ∧ (True ∧ True ∧ True ∧ sw (!decide (IntKind.u32.wrap (h.cum - y_1) ≤ IntKind.u32.wrap (IntKind.u32.wrap (y_1 + IntKind.u32.wrap (↑q.out.length : Int)) - y_1))) (q.next = (heardQ (QuR.mk q.next (piesOf (D.recs (7 : Nat) q.wait.length (pieCell q.wait))) (itsOf q.out.length (itCell q.out))) (HeaR.mk h.cum h.win (gapsOf (D.recs (2 : Nat) h.gaps.length (gapCell h.gaps))) h.dups)).q.next ∧
  (q.wait.length = (heardQ (QuR.mk q.next (piesOf (D.recs (7 : Nat) q.wait.length (pieCell q.wait))) (itsOf q.out.length (itCell q.out))) (HeaR.mk h.cum h.win (gapsOf (D.recs (2 : Nat) h.gaps.length (gapCell h.gaps))) h.dups)).q.wait.length ∧
  ∀ (i : Nat), i < q.wait.length → ∀ (j : Nat), j < (7 : Nat) → pieCell q.wait i j = pieCell (heardQ (QuR.mk q.next (piesOf (D.recs (7 : Nat) q.wait.length (pieCell q.wait))) (itsOf q.out.length (itCell q.out))) (HeaR.mk h.cum h.win (gapsOf (D.recs (2 : Nat) h.gaps.length (gapCell h.gaps))) h.dups)).q.wait i j) ∧
  (q.out.length = (heardQ (QuR.mk q.next (piesOf (D.recs (7 : Nat) q.wait.length (pieCell q.wait))) (itsOf q.out.length (itCell q.out))) (HeaR.mk h.cum h.win (gapsOf (D.recs (2 : Nat) h.gaps.length (gapCell h.gaps))) h.dups)).q.out.length ∧
  (∀ (i : Nat), i < (heardQ (QuR.mk q.next (piesOf (D.recs (7 : Nat) q.wait.length (pieCell q.wait))) (itsOf q.out.length (itCell q.out))) (HeaR.mk h.cum h.win (gapsOf (D.recs (2 : Nat) h.gaps.length (gapCell h.gaps))) h.dups)).q.out.length →
  ∀ (j : Nat), j < (11 : Nat) → itCell q.out i j = itCell (heardQ (QuR.mk q.next (piesOf (D.recs (7 : Nat) q.wait.length (pieCell q.wait))) (itsOf q.out.length (itCell q.out))) (HeaR.mk h.cum h.win (gapsOf (D.recs (2 : Nat) h.gaps.length (gapCell h.gaps))) h.dups)).q.out i j) ∧
  True) ∧ (heardQ (QuR.mk q.next (piesOf (D.recs (7 : Nat) q.wait.length (pieCell q.wait))) (itsOf q.out.length (itCell q.out))) (HeaR.mk h.cum h.win (gapsOf (D.recs (2 : Nat) h.gaps.length (gapCell h.gaps))) h.dups)).ac = [] ∧
  (heardQ (QuR.mk q.next (piesOf (D.recs (7 : Nat) q.wait.length (pieCell q.wait))) (itsOf q.out.length (itCell q.out))) (HeaR.mk h.cum h.win (gapsOf (D.recs (2 : Nat) h.gaps.length (gapCell h.gaps))) h.dups)).fast = [] ∧
  (15 : Int) = (heardQ (QuR.mk q.next (piesOf (D.recs (7 : Nat) q.wait.length (pieCell q.wait))) (itsOf q.out.length (itCell q.out))) (HeaR.mk h.cum h.win (gapsOf (D.recs (2 : Nat) h.gaps.length (gapCell h.gaps))) h.dups)).e ∧
  (!(Nat.beq (0 : Nat) (2 : Nat) || (Nat.beq (1 : Nat) (2 : Nat) || false)) && (!(Nat.beq (1 : Nat) (0 : Nat) || false) && (!false && true)) && true) = true) (((0 : Int) ≤ (2 : Int) ∧
  (2 : Int) ≤ (2 : Int) ∧ (2 : Int) ≤ (9223372036854775807 : Int) ∧ (16 : Nat) ≤ (281474976710656 : Nat) ∧ IntKind.i64 = IntKind.i64) ∧ True ∧ ((0 : Int) ≤ IntKind.i64.wrap (IntKind.u32.wrap (h.cum - y_1)) ∧
  IntKind.i64.wrap (IntKind.u32.wrap (h.cum - y_1)) ≤ (↑q.out.length : Int)) ∧ ∃ (g0 : Nat), g0 ≤ doneQ q h ∧ (0 : Int) = (↑g0 : Int) ∧ List.replicate (Int.toNat (2 : Int)) (0 : Int) = ac1 q g0 ∧
  (bs = bs ∧ q.out.length = q.out.length ∧ ∀ (i : Nat), i < q.out.length → ∀ (j : Nat), j < (11 : Nat) → itCell q.out i j = itCell (mapTo (fun (_x : Nat) => noteI) q.out g0) i j) ∧
  (!(Nat.beq (7 : Nat) (6 : Nat) || (Nat.beq (1 : Nat) (6 : Nat) || false)) && (!(Nat.beq (1 : Nat) (7 : Nat) || false) && (!false && true)) && true) = true ∧
  ∀ (g : Nat), g ≤ doneQ q h → True ∧ sw (decide ((↑g : Int) < (↑(IntKind.i64.wrap (IntKind.u32.wrap (h.cum - y_1))).toNat : Int))) (((0 : Int) ≤ (↑g : Int) ∧
  (↑g : Int) < (↑(IntKind.i64.wrap (IntKind.u32.wrap (h.cum - y_1))).toNat : Int)) ∧ ∀ (b : Nat), bs[(↑g : Int).toNat]? = some b → bs[(↑g : Int).toNat]? = some b ∧
  sw (!((mapTo (fun (_x : Nat) => noteI) q.out g).getD (↑g : Int).toNat noIt).heard) (SV.px (171 : Nat) (↑g : Int).toNat b (0 : Nat) = SV.px (171 : Nat) (↑g : Int).toNat b (0 : Nat)) True ∧
  sw (!((mapTo (fun (_x : Nat) => noteI) q.out g).getD (↑g : Int).toNat noIt).heard) ([!((mapTo (fun (_x : Nat) => noteI) q.out g).getD (↑g : Int).toNat noIt).heard] = [!((mapTo (fun (_x : Nat) => noteI) q.out g).getD (↑g : Int).toNat noIt).heard] ∧
  SV.px (171 : Nat) (↑g : Int).toNat b (0 : Nat) = SV.px (171 : Nat) (↑g : Int).toNat b (0 : Nat)) True ∧ sw (!((mapTo (fun (_x : Nat) => noteI) q.out g).getD (↑g : Int).toNat noIt).heard) ([!((mapTo (fun (_x : Nat) => noteI) q.out g).getD (↑g : Int).toNat noIt).heard] = [!((mapTo (fun (_x : Nat) => noteI) q.out g).getD (↑g : Int).toNat noIt).heard] ∧
  SV.px (171 : Nat) (↑g : Int).toNat b (7 : Nat) = SV.px (171 : Nat) (↑g : Int).toNat b (7 : Nat)) True ∧ sw (!((mapTo (fun (_x : Nat) => noteI) q.out g).getD (↑g : Int).toNat noIt).heard) ([!((mapTo (fun (_x : Nat) => noteI) q.out g).getD (↑g : Int).toNat noIt).heard] = [!((mapTo (fun (_x : Nat) => noteI) q.out g).getD (↑g : Int).toNat noIt).heard] ∧
  bs[(↑g : Int).toNat]? = some b ∧ SV.c (Value.int IntKind.i64 ((mapTo (fun (_x : Nat) => noteI) q.out g).getD (↑g : Int).toNat noIt).path) = SV.c (Value.int IntKind.i64 ((mapTo (fun (_x : Nat) => noteI) q.out g).getD (↑g : Int).toNat noIt).path)) True ∧
  sw (!((mapTo (fun (_x : Nat) => noteI) q.out g).getD (↑g : Int).toNat noIt).heard) ([!((mapTo (fun (_x : Nat) => noteI) q.out g).getD (↑g : Int).toNat noIt).heard] = [!((mapTo (fun (_x : Nat) => noteI) q.out g).getD (↑g : Int).toNat noIt).heard] ∧
  True ∧ SV.c (Value.bool (decide ((0 : Int) ≤ ((mapTo (fun (_x : Nat) => noteI) q.out g).getD (↑g : Int).toNat noIt).path))) = SV.c (Value.bool (decide ((0 : Int) ≤ ((mapTo (fun (_x : Nat) => noteI) q.out g).getD (↑g : Int).toNat noIt).path)))) True ∧
  [!((mapTo (fun (_x : Nat) => noteI) q.out g).getD (↑g : Int).toNat noIt).heard] = [!((mapTo (fun (_x : Nat) => noteI) q.out g).getD (↑g : Int).toNat noIt).heard] ∧
  sw (!((mapTo (fun (_x : Nat) => noteI) q.out g).getD (↑g : Int).toNat noIt).heard && decide ((0 : Int) ≤ ((mapTo (fun (_x : Nat) => noteI) q.out g).getD (↑g : Int).toNat noIt).path)) (SV.px (171 : Nat) (↑g : Int).toNat b (0 : Nat) = SV.px (171 : Nat) (↑g : Int).toNat b (0 : Nat)) True ∧
  sw (!((mapTo (fun (_x : Nat) => noteI) q.out g).getD (↑g : Int).toNat noIt).heard && decide ((0 : Int) ≤ ((mapTo (fun (_x : Nat) => noteI) q.out g).getD (↑g : Int).toNat noIt).path)) ([!((mapTo (fun (_x : Nat) => noteI) q.out g).getD (↑g : Int).toNat noIt).heard && decide ((0 : Int) ≤ ((mapTo (fun (_x : Nat) => noteI) q.out g).getD (↑g : Int).toNat noIt).path)] = [!((mapTo (fun (_x : Nat) => noteI) q.out g).getD (↑g : Int).toNat noIt).heard && decide ((0 : Int) ≤ ((mapTo (fun (_x : Nat) => noteI) q.out g).getD (↑g : Int).toNat noIt).path)] ∧
  SV.px (171 : Nat) (↑g : Int).toNat b (0 : Nat) = SV.px (171 : Nat) (↑g : Int).toNat b (0 : Nat)) True ∧ sw (!((mapTo (fun (_x : Nat) => noteI) q.out g).getD (↑g : Int).toNat noIt).heard && decide ((0 : Int) ≤ ((mapTo (fun (_x : Nat) => noteI) q.out g).getD (↑g : Int).toNat noIt).path)) ([!((mapTo (fun (_x : Nat) => noteI) q.out g).getD (↑g : Int).toNat noIt).heard && decide ((0 : Int) ≤ ((mapTo (fun (_x : Nat) => noteI) q.out g).getD (↑g : Int).toNat noIt).path)] = [!((mapTo (fun (_x : Nat) => noteI) q.out g).getD (↑g : Int).toNat noIt).heard && decide ((0 : Int) ≤ ((mapTo (fun (_x : Nat) => noteI) q.out g).getD (↑g : Int).toNat noIt).path)] ∧
  SV.px (171 : Nat) (↑g : Int).toNat b (7 : Nat) = SV.px (171 : Nat) (↑g : Int).toNat b (7 : Nat)) True ∧ sw (!((mapTo (fun (_x : Nat) => noteI) q.out g).getD (↑g : Int).toNat noIt).heard && decide ((0 : Int) ≤ ((mapTo (fun (_x : Nat) => noteI) q.out g).getD (↑g : Int).toNat noIt).path)) ([!((mapTo (fun (_x : Nat) => noteI) q.out g).getD (↑g : Int).toNat noIt).heard && decide ((0 : Int) ≤ ((mapTo (fun (_x : Nat) => noteI) q.out g).getD (↑g : Int).toNat noIt).path)] = [!((mapTo (fun (_x : Nat) => noteI) q.out g).getD (↑g : Int).toNat noIt).heard && decide ((0 : Int) ≤ ((mapTo (fun (_x : Nat) => noteI) q.out g).getD (↑g : Int).toNat noIt).path)] ∧
  bs[(↑g : Int).toNat]? = some b ∧ SV.c (Value.int IntKind.i64 ((mapTo (fun (_x : Nat) => noteI) q.out g).getD (↑g : Int).toNat noIt).path) = SV.c (Value.int IntKind.i64 ((mapTo (fun (_x : Nat) => noteI) q.out g).getD (↑g : Int).toNat noIt).path)) True ∧
  sw (!((mapTo (fun (_x : Nat) => noteI) q.out g).getD (↑g : Int).toNat noIt).heard && decide ((0 : Int) ≤ ((mapTo (fun (_x : Nat) => noteI) q.out g).getD (↑g : Int).toNat noIt).path)) ([!((mapTo (fun (_x : Nat) => noteI) q.out g).getD (↑g : Int).toNat noIt).heard && decide ((0 : Int) ≤ ((mapTo (fun (_x : Nat) => noteI) q.out g).getD (↑g : Int).toNat noIt).path)] = [!((mapTo (fun (_x : Nat) => noteI) q.out g).getD (↑g : Int).toNat noIt).heard && decide ((0 : Int) ≤ ((mapTo (fun (_x : Nat) => noteI) q.out g).getD (↑g : Int).toNat noIt).path)] ∧
  True ∧ SV.c (Value.bool (decide (((mapTo (fun (_x : Nat) => noteI) q.out g).getD (↑g : Int).toNat noIt).path < (2 : Int)))) = SV.c (Value.bool (decide (((mapTo (fun (_x : Nat) => noteI) q.out g).getD (↑g : Int).toNat noIt).path < (2 : Int))))) True ∧
  [!((mapTo (fun (_x : Nat) => noteI) q.out g).getD (↑g : Int).toNat noIt).heard && decide ((0 : Int) ≤ ((mapTo (fun (_x : Nat) => noteI) q.out g).getD (↑g : Int).toNat noIt).path)] = [!((mapTo (fun (_x : Nat) => noteI) q.out g).getD (↑g : Int).toNat noIt).heard && decide ((0 : Int) ≤ ((mapTo (fun (_x : Nat) => noteI) q.out g).getD (↑g : Int).toNat noIt).path)] ∧
  sw (!((mapTo (fun (_x : Nat) => noteI) q.out g).getD (↑g : Int).toNat noIt).heard && decide ((0 : Int) ≤ ((mapTo (fun (_x : Nat) => noteI) q.out g).getD (↑g : Int).toNat noIt).path) && decide (((mapTo (fun (_x : Nat) => noteI) q.out g).getD (↑g : Int).toNat noIt).path < (2 : Int))) (bs[(↑g : Int).toNat]? = some b ∧
  ((0 : Int) ≤ ((mapTo (fun (_x : Nat) => noteI) q.out g).getD (↑g : Int).toNat noIt).path ∧ ((mapTo (fun (_x : Nat) => noteI) q.out g).getD (↑g : Int).toNat noIt).path < (↑(ac1 q g).length : Int)) ∧
  bs[(↑g : Int).toNat]? = some b ∧ True ∧ ((0 : Int) ≤ ((mapTo (fun (_x : Nat) => noteI) q.out g).getD (↑g : Int).toNat noIt).path ∧ ((mapTo (fun (_x : Nat) => noteI) q.out g).getD (↑g : Int).toNat noIt).path < (↑(ac1 q g).length : Int)) ∧
  (IntKind.i64 = IntKind.i64 ∧ bs[(↑g : Int).toNat]? = some b ∧ bs[(↑g : Int).toNat]? = some b ∧ True ∧ ∃ (g' : Nat), g' ≤ doneQ q h ∧ doneQ q h - g' < doneQ q h - g ∧
  (IntKind.i64.wrap ((↑g : Int) + (1 : Int)) = (↑g' : Int) ∧ (ac1 q g).set ((mapTo (fun (_x : Nat) => noteI) q.out g).getD (↑g : Int).toNat noIt).path.toNat (IntKind.i64.wrap ((ac1 q g).getD ((mapTo (fun (_x : Nat) => noteI) q.out g).getD (↑g : Int).toNat noIt).path.toNat (0 : Int) + (↑((mapTo (fun (_x : Nat) => noteI) q.out g).getD (↑g : Int).toNat noIt).pc.bytes.length : Int))) = ac1 q g' ∧
  (bs = bs ∧ q.out.length = q.out.length ∧ ∀ (i : Nat), i < q.out.length → ∀ (j : Nat), j < (11 : Nat) → setRecM (setRecM (itCell (mapTo (fun (_x : Nat) => noteI) q.out g)) (↑g : Int).toNat (9 : Nat) [D.v (Value.bool true)]) (↑g : Int).toNat (10 : Nat) [D.v (Value.bool false)] i j = itCell (mapTo (fun (_x : Nat) => noteI) q.out g') i j) ∧
  (!(Nat.beq (8 : Nat) (6 : Nat) || (Nat.beq (1 : Nat) (6 : Nat) || false)) && (!(Nat.beq (1 : Nat) (8 : Nat) || false) && (!false && true)) && true && ((Nat.ble (8 : Nat) (6 : Nat) || (Nat.beq (6 : Nat) (6 : Nat) || (Nat.beq (7 : Nat) (6 : Nat) || (Nat.beq (1 : Nat) (6 : Nat) || false)))) && ((Nat.ble (8 : Nat) (8 : Nat) || (Nat.beq (6 : Nat) (8 : Nat) || (Nat.beq (7 : Nat) (8 : Nat) || (Nat.beq (1 : Nat) (8 : Nat) || false)))) && ((Nat.ble (8 : Nat) (1 : Nat) || (Nat.beq (6 : Nat) (1 : Nat) || (Nat.beq (7 : Nat) (1 : Nat) || (Nat.beq (1 : Nat) (1 : Nat) || false)))) && true)))) = true) ∧
  (some (SV.c (Value.int IntKind.i64 (↑(IntKind.i64.wrap (IntKind.u32.wrap (h.cum - y_1))).toNat : Int))) = some (SV.c (Value.int IntKind.i64 (↑(IntKind.i64.wrap (IntKind.u32.wrap (h.cum - y_1))).toNat : Int))) ∧
  some (SV.hv (1 : Nat) (IntKind.i64.wrap (IntKind.u32.wrap (h.cum - y_1))).toNat) = some (SV.hv (1 : Nat) (IntKind.i64.wrap (IntKind.u32.wrap (h.cum - y_1))).toNat) ∧
  some (SV.c (Value.int IntKind.i64 (IntKind.i64.wrap (IntKind.u32.wrap (h.cum - y_1))))) = some (SV.c (Value.int IntKind.i64 (IntKind.i64.wrap (IntKind.u32.wrap (h.cum - y_1))))) ∧
  some (SV.a (1 : Nat)) = some (SV.a (1 : Nat)) ∧ some (SV.p (2 : Nat) (2 : Nat)) = some (SV.p (2 : Nat) (2 : Nat)) ∧ some (SV.p (2 : Nat) (0 : Nat)) = some (SV.p (2 : Nat) (0 : Nat)) ∧
  some (SV.p (2 : Nat) (0 : Nat)) = some (SV.p (2 : Nat) (0 : Nat)) ∧ some (SV.c (Value.int IntKind.i64 (IntKind.i64.wrap (IntKind.u32.wrap (h.cum - y_1))))) = some (SV.c (Value.int IntKind.i64 (IntKind.i64.wrap (IntKind.u32.wrap (h.cum - y_1))))) ∧
  some (SV.c (Value.int IntKind.i64 (IntKind.i64.wrap (IntKind.u32.wrap (h.cum - y_1))))) = some (SV.c (Value.int IntKind.i64 (IntKind.i64.wrap (IntKind.u32.wrap (h.cum - y_1))))) ∧
  some (SV.c (Value.int IntKind.u32 (IntKind.u32.wrap (h.cum - y_1)))) = some (SV.c (Value.int IntKind.u32 (IntKind.u32.wrap (h.cum - y_1)))) ∧ some (SV.c (Value.int IntKind.u32 y_1)) = some (SV.c (Value.int IntKind.u32 y_1)) ∧
  some (SV.c (Value.int IntKind.u32 h.cum)) = some (SV.c (Value.int IntKind.u32 h.cum)) ∧ some (SV.p (5 : Nat) (0 : Nat)) = some (SV.p (5 : Nat) (0 : Nat)) ∧
  some (SV.f (87 : Nat) (0 : Nat) [SV.p (6 : Nat) (0 : Nat)]) = some (SV.f (87 : Nat) (0 : Nat) [SV.p (6 : Nat) (0 : Nat)]) ∧ some (SV.f (87 : Nat) (0 : Nat) [SV.p (6 : Nat) (0 : Nat)]) = some (SV.f (87 : Nat) (0 : Nat) [SV.p (6 : Nat) (0 : Nat)]) ∧
  some (SV.a (7 : Nat)) = some (SV.a (7 : Nat)) ∧ some (SV.c (Value.bool !decide (IntKind.u32.wrap (h.cum - y_1) ≤ IntKind.u32.wrap (IntKind.u32.wrap (y_1 + IntKind.u32.wrap (↑q.out.length : Int)) - y_1)))) = some (SV.c (Value.bool !decide (IntKind.u32.wrap (h.cum - y_1) ≤ IntKind.u32.wrap (IntKind.u32.wrap (y_1 + IntKind.u32.wrap (↑q.out.length : Int)) - y_1)))) ∧
  some (SV.c (Value.bool (decide (IntKind.u32.wrap (h.cum - y_1) ≤ IntKind.u32.wrap (IntKind.u32.wrap (y_1 + IntKind.u32.wrap (↑q.out.length : Int)) - y_1))))) = some (SV.c (Value.bool (decide (IntKind.u32.wrap (h.cum - y_1) ≤ IntKind.u32.wrap (IntKind.u32.wrap (y_1 + IntKind.u32.wrap (↑q.out.length : Int)) - y_1))))) ∧
  some (SV.c (Value.int IntKind.u32 h.cum)) = some (SV.c (Value.int IntKind.u32 h.cum)) ∧ some (SV.p (5 : Nat) (0 : Nat)) = some (SV.p (5 : Nat) (0 : Nat)) ∧
  some (SV.c (Value.int IntKind.u32 (IntKind.u32.wrap (y_1 + IntKind.u32.wrap (↑q.out.length : Int))))) = some (SV.c (Value.int IntKind.u32 (IntKind.u32.wrap (y_1 + IntKind.u32.wrap (↑q.out.length : Int))))) ∧
  some (SV.c (Value.int IntKind.u32 (IntKind.u32.wrap (↑q.out.length : Int)))) = some (SV.c (Value.int IntKind.u32 (IntKind.u32.wrap (↑q.out.length : Int)))) ∧
  some (SV.c (Value.int IntKind.i64 (↑q.out.length : Int))) = some (SV.c (Value.int IntKind.i64 (↑q.out.length : Int))) ∧ some (SV.a (1 : Nat)) = some (SV.a (1 : Nat)) ∧
  some (SV.p (2 : Nat) (2 : Nat)) = some (SV.p (2 : Nat) (2 : Nat)) ∧ some (SV.p (2 : Nat) (0 : Nat)) = some (SV.p (2 : Nat) (0 : Nat)) ∧ some (SV.p (2 : Nat) (0 : Nat)) = some (SV.p (2 : Nat) (0 : Nat)) ∧
  some (SV.c (Value.int IntKind.u32 y_1)) = some (SV.c (Value.int IntKind.u32 y_1)) ∧ some (SV.c (Value.int IntKind.u32 y_1)) = some (SV.c (Value.int IntKind.u32 y_1)) ∧
  some (SV.c (Value.int IntKind.u32 y_1)) = some (SV.c (Value.int IntKind.u32 y_1)) ∧ some (SV.c (Value.int IntKind.u32 y_1)) = some (SV.c (Value.int IntKind.u32 y_1)) ∧
  some (SV.p (2 : Nat) (0 : Nat)) = some (SV.p (2 : Nat) (0 : Nat)) ∧ some (SV.c (Value.bool !apartF (gapsOf (D.recs (2 : Nat) h.gaps.length (gapCell h.gaps))))) = some (SV.c (Value.bool !apartF (gapsOf (D.recs (2 : Nat) h.gaps.length (gapCell h.gaps))))) ∧
  some (SV.c (Value.bool (apartF (gapsOf (D.recs (2 : Nat) h.gaps.length (gapCell h.gaps)))))) = some (SV.c (Value.bool (apartF (gapsOf (D.recs (2 : Nat) h.gaps.length (gapCell h.gaps)))))) ∧
  some (SV.a (3 : Nat)) = some (SV.a (3 : Nat)) ∧ some (SV.p (5 : Nat) (2 : Nat)) = some (SV.p (5 : Nat) (2 : Nat)) ∧ some (SV.b false) = some (SV.b false) ∧
  some (SV.p (2 : Nat) (0 : Nat)) = some (SV.p (2 : Nat) (0 : Nat)) ∧ some (SV.c (Value.int IntKind.i64 (0 : Int))) = some (SV.c (Value.int IntKind.i64 (0 : Int))) ∧
  some SV.nil = some SV.nil ∧ some (SV.p (6 : Nat) (0 : Nat)) = some (SV.p (6 : Nat) (0 : Nat)) ∧ some (SV.p (5 : Nat) (0 : Nat)) = some (SV.p (5 : Nat) (0 : Nat)) ∧
  some (SV.p (2 : Nat) (0 : Nat)) = some (SV.p (2 : Nat) (0 : Nat)) ∧ some (SV.agg [SV.c (Value.int IntKind.u32 h.cum), SV.c (Value.int IntKind.u32 h.win), SV.a (3 : Nat), SV.a (4 : Nat)]) = some (SV.agg [SV.c (Value.int IntKind.u32 h.cum), SV.c (Value.int IntKind.u32 h.win), SV.a (3 : Nat), SV.a (4 : Nat)]) ∧
  True) ∧ some (R.blk (35 : Nat) [SV.c (Value.int IntKind.u32 h.cum), SV.c (Value.int IntKind.u32 h.win), SV.a (3 : Nat), SV.a (4 : Nat)]) = some (R.blk (35 : Nat) [SV.c (Value.int IntKind.u32 h.cum), SV.c (Value.int IntKind.u32 h.win), SV.a (3 : Nat), SV.a (4 : Nat)]) ∧
  some (R.ro (D.ints IntKind.u32 h.dups)) = some (R.ro (D.ints IntKind.u32 h.dups)) ∧ some (R.ro (D.recs (2 : Nat) h.gaps.length (gapCell h.gaps))) = some (R.ro (D.recs (2 : Nat) h.gaps.length (gapCell h.gaps))) ∧
  some (R.blk (166 : Nat) [SV.c (Value.int IntKind.u32 q.next), SV.a (0 : Nat), SV.a (1 : Nat)]) = some (R.blk (166 : Nat) [SV.c (Value.int IntKind.u32 q.next), SV.a (0 : Nat), SV.a (1 : Nat)]) ∧
  some (R.own (86 : Nat) (D.recs (7 : Nat) q.wait.length (pieCell q.wait))) = some (R.own (86 : Nat) (D.recs (7 : Nat) q.wait.length (pieCell q.wait))) ∧
  True) ∧ True) (bs[(↑g : Int).toNat]? = some b ∧ bs[(↑g : Int).toNat]? = some b ∧ True ∧ ∃ (g' : Nat), g' ≤ doneQ q h ∧ doneQ q h - g' < doneQ q h - g ∧
  (IntKind.i64.wrap ((↑g : Int) + (1 : Int)) = (↑g' : Int) ∧ ac1 q g = ac1 q g' ∧ (bs = bs ∧ q.out.length = q.out.length ∧ ∀ (i : Nat), i < q.out.length →
  ∀ (j : Nat), j < (11 : Nat) → setRecM (setRecM (itCell (mapTo (fun (_x : Nat) => noteI) q.out g)) (↑g : Int).toNat (9 : Nat) [D.v (Value.bool true)]) (↑g : Int).toNat (10 : Nat) [D.v (Value.bool false)] i j = itCell (mapTo (fun (_x : Nat) => noteI) q.out g') i j) ∧
  (!(Nat.beq (8 : Nat) (6 : Nat) || (Nat.beq (1 : Nat) (6 : Nat) || false)) && (!(Nat.beq (1 : Nat) (8 : Nat) || false) && (!false && true)) && true && ((Nat.ble (8 : Nat) (6 : Nat) || (Nat.beq (6 : Nat) (6 : Nat) || (Nat.beq (7 : Nat) (6 : Nat) || (Nat.beq (1 : Nat) (6 : Nat) || false)))) && ((Nat.ble (8 : Nat) (8 : Nat) || (Nat.beq (6 : Nat) (8 : Nat) || (Nat.beq (7 : Nat) (8 : Nat) || (Nat.beq (1 : Nat) (8 : Nat) || false)))) && ((Nat.ble (8 : Nat) (1 : Nat) || (Nat.beq (6 : Nat) (1 : Nat) || (Nat.beq (7 : Nat) (1 : Nat) || (Nat.beq (1 : Nat) (1 : Nat) || false)))) && true)))) = true) ∧
  (some (SV.c (Value.int IntKind.i64 (↑(IntKind.i64.wrap (IntKind.u32.wrap (h.cum - y_1))).toNat : Int))) = some (SV.c (Value.int IntKind.i64 (↑(IntKind.i64.wrap (IntKind.u32.wrap (h.cum - y_1))).toNat : Int))) ∧
  some (SV.hv (1 : Nat) (IntKind.i64.wrap (IntKind.u32.wrap (h.cum - y_1))).toNat) = some (SV.hv (1 : Nat) (IntKind.i64.wrap (IntKind.u32.wrap (h.cum - y_1))).toNat) ∧
  some (SV.c (Value.int IntKind.i64 (IntKind.i64.wrap (IntKind.u32.wrap (h.cum - y_1))))) = some (SV.c (Value.int IntKind.i64 (IntKind.i64.wrap (IntKind.u32.wrap (h.cum - y_1))))) ∧
  some (SV.a (1 : Nat)) = some (SV.a (1 : Nat)) ∧ some (SV.p (2 : Nat) (2 : Nat)) = some (SV.p (2 : Nat) (2 : Nat)) ∧ some (SV.p (2 : Nat) (0 : Nat)) = some (SV.p (2 : Nat) (0 : Nat)) ∧
  some (SV.p (2 : Nat) (0 : Nat)) = some (SV.p (2 : Nat) (0 : Nat)) ∧ some (SV.c (Value.int IntKind.i64 (IntKind.i64.wrap (IntKind.u32.wrap (h.cum - y_1))))) = some (SV.c (Value.int IntKind.i64 (IntKind.i64.wrap (IntKind.u32.wrap (h.cum - y_1))))) ∧
  some (SV.c (Value.int IntKind.i64 (IntKind.i64.wrap (IntKind.u32.wrap (h.cum - y_1))))) = some (SV.c (Value.int IntKind.i64 (IntKind.i64.wrap (IntKind.u32.wrap (h.cum - y_1))))) ∧
  some (SV.c (Value.int IntKind.u32 (IntKind.u32.wrap (h.cum - y_1)))) = some (SV.c (Value.int IntKind.u32 (IntKind.u32.wrap (h.cum - y_1)))) ∧ some (SV.c (Value.int IntKind.u32 y_1)) = some (SV.c (Value.int IntKind.u32 y_1)) ∧
  some (SV.c (Value.int IntKind.u32 h.cum)) = some (SV.c (Value.int IntKind.u32 h.cum)) ∧ some (SV.p (5 : Nat) (0 : Nat)) = some (SV.p (5 : Nat) (0 : Nat)) ∧
  some (SV.f (87 : Nat) (0 : Nat) [SV.p (6 : Nat) (0 : Nat)]) = some (SV.f (87 : Nat) (0 : Nat) [SV.p (6 : Nat) (0 : Nat)]) ∧ some (SV.f (87 : Nat) (0 : Nat) [SV.p (6 : Nat) (0 : Nat)]) = some (SV.f (87 : Nat) (0 : Nat) [SV.p (6 : Nat) (0 : Nat)]) ∧
  some (SV.a (7 : Nat)) = some (SV.a (7 : Nat)) ∧ some (SV.c (Value.bool !decide (IntKind.u32.wrap (h.cum - y_1) ≤ IntKind.u32.wrap (IntKind.u32.wrap (y_1 + IntKind.u32.wrap (↑q.out.length : Int)) - y_1)))) = some (SV.c (Value.bool !decide (IntKind.u32.wrap (h.cum - y_1) ≤ IntKind.u32.wrap (IntKind.u32.wrap (y_1 + IntKind.u32.wrap (↑q.out.length : Int)) - y_1)))) ∧
  some (SV.c (Value.bool (decide (IntKind.u32.wrap (h.cum - y_1) ≤ IntKind.u32.wrap (IntKind.u32.wrap (y_1 + IntKind.u32.wrap (↑q.out.length : Int)) - y_1))))) = some (SV.c (Value.bool (decide (IntKind.u32.wrap (h.cum - y_1) ≤ IntKind.u32.wrap (IntKind.u32.wrap (y_1 + IntKind.u32.wrap (↑q.out.length : Int)) - y_1))))) ∧
  some (SV.c (Value.int IntKind.u32 h.cum)) = some (SV.c (Value.int IntKind.u32 h.cum)) ∧ some (SV.p (5 : Nat) (0 : Nat)) = some (SV.p (5 : Nat) (0 : Nat)) ∧
  some (SV.c (Value.int IntKind.u32 (IntKind.u32.wrap (y_1 + IntKind.u32.wrap (↑q.out.length : Int))))) = some (SV.c (Value.int IntKind.u32 (IntKind.u32.wrap (y_1 + IntKind.u32.wrap (↑q.out.length : Int))))) ∧
  some (SV.c (Value.int IntKind.u32 (IntKind.u32.wrap (↑q.out.length : Int)))) = some (SV.c (Value.int IntKind.u32 (IntKind.u32.wrap (↑q.out.length : Int)))) ∧
  some (SV.c (Value.int IntKind.i64 (↑q.out.length : Int))) = some (SV.c (Value.int IntKind.i64 (↑q.out.length : Int))) ∧ some (SV.a (1 : Nat)) = some (SV.a (1 : Nat)) ∧
  some (SV.p (2 : Nat) (2 : Nat)) = some (SV.p (2 : Nat) (2 : Nat)) ∧ some (SV.p (2 : Nat) (0 : Nat)) = some (SV.p (2 : Nat) (0 : Nat)) ∧ some (SV.p (2 : Nat) (0 : Nat)) = some (SV.p (2 : Nat) (0 : Nat)) ∧
  some (SV.c (Value.int IntKind.u32 y_1)) = some (SV.c (Value.int IntKind.u32 y_1)) ∧ some (SV.c (Value.int IntKind.u32 y_1)) = some (SV.c (Value.int IntKind.u32 y_1)) ∧
  some (SV.c (Value.int IntKind.u32 y_1)) = some (SV.c (Value.int IntKind.u32 y_1)) ∧ some (SV.c (Value.int IntKind.u32 y_1)) = some (SV.c (Value.int IntKind.u32 y_1)) ∧
  some (SV.p (2 : Nat) (0 : Nat)) = some (SV.p (2 : Nat) (0 : Nat)) ∧ some (SV.c (Value.bool !apartF (gapsOf (D.recs (2 : Nat) h.gaps.length (gapCell h.gaps))))) = some (SV.c (Value.bool !apartF (gapsOf (D.recs (2 : Nat) h.gaps.length (gapCell h.gaps))))) ∧
  some (SV.c (Value.bool (apartF (gapsOf (D.recs (2 : Nat) h.gaps.length (gapCell h.gaps)))))) = some (SV.c (Value.bool (apartF (gapsOf (D.recs (2 : Nat) h.gaps.length (gapCell h.gaps)))))) ∧
  some (SV.a (3 : Nat)) = some (SV.a (3 : Nat)) ∧ some (SV.p (5 : Nat) (2 : Nat)) = some (SV.p (5 : Nat) (2 : Nat)) ∧ some (SV.b false) = some (SV.b false) ∧
  some (SV.p (2 : Nat) (0 : Nat)) = some (SV.p (2 : Nat) (0 : Nat)) ∧ some (SV.c (Value.int IntKind.i64 (0 : Int))) = some (SV.c (Value.int IntKind.i64 (0 : Int))) ∧
  some SV.nil = some SV.nil ∧ some (SV.p (6 : Nat) (0 : Nat)) = some (SV.p (6 : Nat) (0 : Nat)) ∧ some (SV.p (5 : Nat) (0 : Nat)) = some (SV.p (5 : Nat) (0 : Nat)) ∧
  some (SV.p (2 : Nat) (0 : Nat)) = some (SV.p (2 : Nat) (0 : Nat)) ∧ some (SV.agg [SV.c (Value.int IntKind.u32 h.cum), SV.c (Value.int IntKind.u32 h.win), SV.a (3 : Nat), SV.a (4 : Nat)]) = some (SV.agg [SV.c (Value.int IntKind.u32 h.cum), SV.c (Value.int IntKind.u32 h.win), SV.a (3 : Nat), SV.a (4 : Nat)]) ∧
  True) ∧ some (R.blk (35 : Nat) [SV.c (Value.int IntKind.u32 h.cum), SV.c (Value.int IntKind.u32 h.win), SV.a (3 : Nat), SV.a (4 : Nat)]) = some (R.blk (35 : Nat) [SV.c (Value.int IntKind.u32 h.cum), SV.c (Value.int IntKind.u32 h.win), SV.a (3 : Nat), SV.a (4 : Nat)]) ∧
  some (R.ro (D.ints IntKind.u32 h.dups)) = some (R.ro (D.ints IntKind.u32 h.dups)) ∧ some (R.ro (D.recs (2 : Nat) h.gaps.length (gapCell h.gaps))) = some (R.ro (D.recs (2 : Nat) h.gaps.length (gapCell h.gaps))) ∧
  some (R.blk (166 : Nat) [SV.c (Value.int IntKind.u32 q.next), SV.a (0 : Nat), SV.a (1 : Nat)]) = some (R.blk (166 : Nat) [SV.c (Value.int IntKind.u32 q.next), SV.a (0 : Nat), SV.a (1 : Nat)]) ∧
  some (R.own (86 : Nat) (D.recs (7 : Nat) q.wait.length (pieCell q.wait))) = some (R.own (86 : Nat) (D.recs (7 : Nat) q.wait.length (pieCell q.wait))) ∧
  True)) (((0 : Int) ≤ IntKind.i64.wrap (IntKind.u32.wrap (h.cum - y_1)) ∧ IntKind.i64.wrap (IntKind.u32.wrap (h.cum - y_1)) ≤ (↑q.out.length : Int)) ∧ ∃ (g0_1 : Nat), g0_1 ≤ (out1 q h).length ∧
  (0 : Int) = (↑g0_1 : Int) ∧ (-1 : Int) = lastG h.gaps g0_1 ∧ ac1 q g = ac2 q h g0_1 ∧ (List.drop (IntKind.i64.wrap (IntKind.u32.wrap (h.cum - y_1))).toNat bs = List.drop (IntKind.i64.wrap (IntKind.u32.wrap (h.cum - y_1))).toNat bs ∧
  q.out.length - (IntKind.i64.wrap (IntKind.u32.wrap (h.cum - y_1))).toNat = q.out.length - (IntKind.i64.wrap (IntKind.u32.wrap (h.cum - y_1))).toNat ∧ ∀ (i : Nat), i < q.out.length - (IntKind.i64.wrap (IntKind.u32.wrap (h.cum - y_1))).toNat →
  ∀ (j : Nat), j < (11 : Nat) → itCell (mapTo (fun (_x : Nat) => noteI) q.out g) ((IntKind.i64.wrap (IntKind.u32.wrap (h.cum - y_1))).toNat + i) j = itCell (mapTo (gapI h.gaps) (out1 q h) g0_1) i j) ∧
  (!(Nat.beq (8 : Nat) (6 : Nat) || (Nat.beq (9 : Nat) (6 : Nat) || false)) && (!(Nat.beq (9 : Nat) (8 : Nat) || false) && (!false && true)) && true) = true ∧
  ∀ (g_1 : Nat), g_1 ≤ (out1 q h).length → True ∧ sw (decide ((↑g_1 : Int) < (↑(q.out.length - (IntKind.i64.wrap (IntKind.u32.wrap (h.cum - y_1))).toNat) : Int))) (((0 : Int) ≤ (↑g_1 : Int) ∧
  (↑g_1 : Int) < (↑(q.out.length - (IntKind.i64.wrap (IntKind.u32.wrap (h.cum - y_1))).toNat) : Int)) ∧ ∀ (b : Nat), (List.drop (IntKind.i64.wrap (IntKind.u32.wrap (h.cum - y_1))).toNat bs)[(↑g_1 : Int).toNat]? = some b →
  True ∧ (∃ (l : List (Int × Int)), ∃ (d : Int), [O.d (D.recs (2 : Nat) h.gaps.length (gapCell h.gaps)), O.d (D.fn (89 : Nat) (0 : Nat) (1 : Nat) fun (i : Nat) => [D.ptr (3 : Nat) (1 : Nat) fun (i : Nat) => [D.v (Value.int IntKind.i64 (IntKind.i64.wrap ((↑g_1 : Int) + (1 : Int))))].getD i (D.v undef)].getD i (D.v undef))] = [O.d (D.recs (2 : Nat) l.length (gapCell l)), O.d (D.fn (89 : Nat) (0 : Nat) (1 : Nat) fun (i : Nat) => [D.ptr (3 : Nat) (1 : Nat) fun (i : Nat) => [D.v (Value.int IntKind.i64 d)].getD i (D.v undef)].getD i (D.v undef))] ∧
  okGs l) ∧ sw (hitG (gapsOf (D.recs (2 : Nat) h.gaps.length (gapCell h.gaps))) (IntKind.i64.wrap ((↑g_1 : Int) + (1 : Int)))) ((List.drop (IntKind.i64.wrap (IntKind.u32.wrap (h.cum - y_1))).toNat bs)[(↑g_1 : Int).toNat]? = some b ∧
  sw (!((mapTo (gapI h.gaps) (out1 q h) g_1).getD (↑g_1 : Int).toNat noIt).heard) (SV.px (171 : Nat) (↑g_1 : Int).toNat b (0 : Nat) = SV.px (171 : Nat) (↑g_1 : Int).toNat b (0 : Nat)) True ∧
  sw (!((mapTo (gapI h.gaps) (out1 q h) g_1).getD (↑g_1 : Int).toNat noIt).heard) ([!((mapTo (gapI h.gaps) (out1 q h) g_1).getD (↑g_1 : Int).toNat noIt).heard] = [!((mapTo (gapI h.gaps) (out1 q h) g_1).getD (↑g_1 : Int).toNat noIt).heard] ∧
  SV.px (171 : Nat) (↑g_1 : Int).toNat b (0 : Nat) = SV.px (171 : Nat) (↑g_1 : Int).toNat b (0 : Nat)) True ∧ sw (!((mapTo (gapI h.gaps) (out1 q h) g_1).getD (↑g_1 : Int).toNat noIt).heard) ([!((mapTo (gapI h.gaps) (out1 q h) g_1).getD (↑g_1 : Int).toNat noIt).heard] = [!((mapTo (gapI h.gaps) (out1 q h) g_1).getD (↑g_1 : Int).toNat noIt).heard] ∧
  SV.px (171 : Nat) (↑g_1 : Int).toNat b (7 : Nat) = SV.px (171 : Nat) (↑g_1 : Int).toNat b (7 : Nat)) True ∧ sw (!((mapTo (gapI h.gaps) (out1 q h) g_1).getD (↑g_1 : Int).toNat noIt).heard) ([!((mapTo (gapI h.gaps) (out1 q h) g_1).getD (↑g_1 : Int).toNat noIt).heard] = [!((mapTo (gapI h.gaps) (out1 q h) g_1).getD (↑g_1 : Int).toNat noIt).heard] ∧
  (List.drop (IntKind.i64.wrap (IntKind.u32.wrap (h.cum - y_1))).toNat bs)[(↑g_1 : Int).toNat]? = some b ∧ SV.c (Value.int IntKind.i64 ((mapTo (gapI h.gaps) (out1 q h) g_1).getD (↑g_1 : Int).toNat noIt).path) = SV.c (Value.int IntKind.i64 ((mapTo (gapI h.gaps) (out1 q h) g_1).getD (↑g_1 : Int).toNat noIt).path)) True ∧
  sw (!((mapTo (gapI h.gaps) (out1 q h) g_1).getD (↑g_1 : Int).toNat noIt).heard) ([!((mapTo (gapI h.gaps) (out1 q h) g_1).getD (↑g_1 : Int).toNat noIt).heard] = [!((mapTo (gapI h.gaps) (out1 q h) g_1).getD (↑g_1 : Int).toNat noIt).heard] ∧
  True ∧ SV.c (Value.bool (decide ((0 : Int) ≤ ((mapTo (gapI h.gaps) (out1 q h) g_1).getD (↑g_1 : Int).toNat noIt).path))) = SV.c (Value.bool (decide ((0 : Int) ≤ ((mapTo (gapI h.gaps) (out1 q h) g_1).getD (↑g_1 : Int).toNat noIt).path)))) True ∧
  [!((mapTo (gapI h.gaps) (out1 q h) g_1).getD (↑g_1 : Int).toNat noIt).heard] = [!((mapTo (gapI h.gaps) (out1 q h) g_1).getD (↑g_1 : Int).toNat noIt).heard] ∧
  sw (!((mapTo (gapI h.gaps) (out1 q h) g_1).getD (↑g_1 : Int).toNat noIt).heard && decide ((0 : Int) ≤ ((mapTo (gapI h.gaps) (out1 q h) g_1).getD (↑g_1 : Int).toNat noIt).path)) (SV.px (171 : Nat) (↑g_1 : Int).toNat b (0 : Nat) = SV.px (171 : Nat) (↑g_1 : Int).toNat b (0 : Nat)) True ∧
  sw (!((mapTo (gapI h.gaps) (out1 q h) g_1).getD (↑g_1 : Int).toNat noIt).heard && decide ((0 : Int) ≤ ((mapTo (gapI h.gaps) (out1 q h) g_1).getD (↑g_1 : Int).toNat noIt).path)) ([!((mapTo (gapI h.gaps) (out1 q h) g_1).getD (↑g_1 : Int).toNat noIt).heard && decide ((0 : Int) ≤ ((mapTo (gapI h.gaps) (out1 q h) g_1).getD (↑g_1 : Int).toNat noIt).path)] = [!((mapTo (gapI h.gaps) (out1 q h) g_1).getD (↑g_1 : Int).toNat noIt).heard && decide ((0 : Int) ≤ ((mapTo (gapI h.gaps) (out1 q h) g_1).getD (↑g_1 : Int).toNat noIt).path)] ∧
  SV.px (171 : Nat) (↑g_1 : Int).toNat b (0 : Nat) = SV.px (171 : Nat) (↑g_1 : Int).toNat b (0 : Nat)) True ∧ sw (!((mapTo (gapI h.gaps) (out1 q h) g_1).getD (↑g_1 : Int).toNat noIt).heard && decide ((0 : Int) ≤ ((mapTo (gapI h.gaps) (out1 q h) g_1).getD (↑g_1 : Int).toNat noIt).path)) ([!((mapTo (gapI h.gaps) (out1 q h) g_1).getD (↑g_1 : Int).toNat noIt).heard && decide ((0 : Int) ≤ ((mapTo (gapI h.gaps) (out1 q h) g_1).getD (↑g_1 : Int).toNat noIt).path)] = [!((mapTo (gapI h.gaps) (out1 q h) g_1).getD (↑g_1 : Int).toNat noIt).heard && decide ((0 : Int) ≤ ((mapTo (gapI h.gaps) (out1 q h) g_1).getD (↑g_1 : Int).toNat noIt).path)] ∧
  SV.px (171 : Nat) (↑g_1 : Int).toNat b (7 : Nat) = SV.px (171 : Nat) (↑g_1 : Int).toNat b (7 : Nat)) True ∧ sw (!((mapTo (gapI h.gaps) (out1 q h) g_1).getD (↑g_1 : Int).toNat noIt).heard && decide ((0 : Int) ≤ ((mapTo (gapI h.gaps) (out1 q h) g_1).getD (↑g_1 : Int).toNat noIt).path)) ([!((mapTo (gapI h.gaps) (out1 q h) g_1).getD (↑g_1 : Int).toNat noIt).heard && decide ((0 : Int) ≤ ((mapTo (gapI h.gaps) (out1 q h) g_1).getD (↑g_1 : Int).toNat noIt).path)] = [!((mapTo (gapI h.gaps) (out1 q h) g_1).getD (↑g_1 : Int).toNat noIt).heard && decide ((0 : Int) ≤ ((mapTo (gapI h.gaps) (out1 q h) g_1).getD (↑g_1 : Int).toNat noIt).path)] ∧
  (List.drop (IntKind.i64.wrap (IntKind.u32.wrap (h.cum - y_1))).toNat bs)[(↑g_1 : Int).toNat]? = some b ∧ SV.c (Value.int IntKind.i64 ((mapTo (gapI h.gaps) (out1 q h) g_1).getD (↑g_1 : Int).toNat noIt).path) = SV.c (Value.int IntKind.i64 ((mapTo (gapI h.gaps) (out1 q h) g_1).getD (↑g_1 : Int).toNat noIt).path)) True ∧
  sw (!((mapTo (gapI h.gaps) (out1 q h) g_1).getD (↑g_1 : Int).toNat noIt).heard && decide ((0 : Int) ≤ ((mapTo (gapI h.gaps) (out1 q h) g_1).getD (↑g_1 : Int).toNat noIt).path)) ([!((mapTo (gapI h.gaps) (out1 q h) g_1).getD (↑g_1 : Int).toNat noIt).heard && decide ((0 : Int) ≤ ((mapTo (gapI h.gaps) (out1 q h) g_1).getD (↑g_1 : Int).toNat noIt).path)] = [!((mapTo (gapI h.gaps) (out1 q h) g_1).getD (↑g_1 : Int).toNat noIt).heard && decide ((0 : Int) ≤ ((mapTo (gapI h.gaps) (out1 q h) g_1).getD (↑g_1 : Int).toNat noIt).path)] ∧
  True ∧ SV.c (Value.bool (decide (((mapTo (gapI h.gaps) (out1 q h) g_1).getD (↑g_1 : Int).toNat noIt).path < (2 : Int)))) = SV.c (Value.bool (decide (((mapTo (gapI h.gaps) (out1 q h) g_1).getD (↑g_1 : Int).toNat noIt).path < (2 : Int))))) True ∧
  [!((mapTo (gapI h.gaps) (out1 q h) g_1).getD (↑g_1 : Int).toNat noIt).heard && decide ((0 : Int) ≤ ((mapTo (gapI h.gaps) (out1 q h) g_1).getD (↑g_1 : Int).toNat noIt).path)] = [!((mapTo (gapI h.gaps) (out1 q h) g_1).getD (↑g_1 : Int).toNat noIt).heard && decide ((0 : Int) ≤ ((mapTo (gapI h.gaps) (out1 q h) g_1).getD (↑g_1 : Int).toNat noIt).path)] ∧
  sw (!((mapTo (gapI h.gaps) (out1 q h) g_1).getD (↑g_1 : Int).toNat noIt).heard && decide ((0 : Int) ≤ ((mapTo (gapI h.gaps) (out1 q h) g_1).getD (↑g_1 : Int).toNat noIt).path) && decide (((mapTo (gapI h.gaps) (out1 q h) g_1).getD (↑g_1 : Int).toNat noIt).path < (2 : Int))) ((List.drop (IntKind.i64.wrap (IntKind.u32.wrap (h.cum - y_1))).toNat bs)[(↑g_1 : Int).toNat]? = some b ∧
  ((0 : Int) ≤ ((mapTo (gapI h.gaps) (out1 q h) g_1).getD (↑g_1 : Int).toNat noIt).path ∧ ((mapTo (gapI h.gaps) (out1 q h) g_1).getD (↑g_1 : Int).toNat noIt).path < (↑(ac2 q h g_1).length : Int)) ∧
  (List.drop (IntKind.i64.wrap (IntKind.u32.wrap (h.cum - y_1))).toNat bs)[(↑g_1 : Int).toNat]? = some b ∧ True ∧ ((0 : Int) ≤ ((mapTo (gapI h.gaps) (out1 q h) g_1).getD (↑g_1 : Int).toNat noIt).path ∧
  ((mapTo (gapI h.gaps) (out1 q h) g_1).getD (↑g_1 : Int).toNat noIt).path < (↑(ac2 q h g_1).length : Int)) ∧ (IntKind.i64 = IntKind.i64 ∧ (List.drop (IntKind.i64.wrap (IntKind.u32.wrap (h.cum - y_1))).toNat bs)[(↑g_1 : Int).toNat]? = some b ∧
  (List.drop (IntKind.i64.wrap (IntKind.u32.wrap (h.cum - y_1))).toNat bs)[(↑g_1 : Int).toNat]? = some b ∧ True ∧ ∃ (g' : Nat), g' ≤ (out1 q h).length ∧ (out1 q h).length - g' < (out1 q h).length - g_1 ∧
  (IntKind.i64.wrap ((↑g_1 : Int) + (1 : Int)) = (↑g' : Int) ∧ (↑g_1 : Int) = lastG h.gaps g' ∧ (ac2 q h g_1).set ((mapTo (gapI h.gaps) (out1 q h) g_1).getD (↑g_1 : Int).toNat noIt).path.toNat (IntKind.i64.wrap ((ac2 q h g_1).getD ((mapTo (gapI h.gaps) (out1 q h) g_1).getD (↑g_1 : Int).toNat noIt).path.toNat (0 : Int) + (↑((mapTo (gapI h.gaps) (out1 q h) g_1).getD (↑g_1 : Int).toNat noIt).pc.bytes.length : Int))) = ac2 q h g' ∧
  (List.drop (IntKind.i64.wrap (IntKind.u32.wrap (h.cum - y_1))).toNat bs = List.drop (IntKind.i64.wrap (IntKind.u32.wrap (h.cum - y_1))).toNat bs ∧ q.out.length - (IntKind.i64.wrap (IntKind.u32.wrap (h.cum - y_1))).toNat = q.out.length - (IntKind.i64.wrap (IntKind.u32.wrap (h.cum - y_1))).toNat ∧
  ∀ (i : Nat), i < q.out.length - (IntKind.i64.wrap (IntKind.u32.wrap (h.cum - y_1))).toNat → ∀ (j : Nat), j < (11 : Nat) → setRecM (setRecM (itCell (mapTo (gapI h.gaps) (out1 q h) g_1)) (↑g_1 : Int).toNat (9 : Nat) [D.v (Value.bool true)]) (↑g_1 : Int).toNat (10 : Nat) [D.v (Value.bool false)] i j = itCell (mapTo (gapI h.gaps) (out1 q h) g') i j) ∧
  (!(Nat.beq (10 : Nat) (6 : Nat) || (Nat.beq (9 : Nat) (6 : Nat) || false)) && (!(Nat.beq (9 : Nat) (10 : Nat) || false) && (!false && true)) && true && ((Nat.ble (10 : Nat) (6 : Nat) || (Nat.beq (6 : Nat) (6 : Nat) || (Nat.beq (8 : Nat) (6 : Nat) || (Nat.beq (9 : Nat) (6 : Nat) || false)))) && ((Nat.ble (10 : Nat) (10 : Nat) || (Nat.beq (6 : Nat) (10 : Nat) || (Nat.beq (8 : Nat) (10 : Nat) || (Nat.beq (9 : Nat) (10 : Nat) || false)))) && ((Nat.ble (10 : Nat) (9 : Nat) || (Nat.beq (6 : Nat) (9 : Nat) || (Nat.beq (8 : Nat) (9 : Nat) || (Nat.beq (9 : Nat) (9 : Nat) || false)))) && true)))) = true) ∧
  (some (SV.c (Value.int IntKind.i64 (↑(q.out.length - (IntKind.i64.wrap (IntKind.u32.wrap (h.cum - y_1))).toNat) : Int))) = some (SV.c (Value.int IntKind.i64 (↑(q.out.length - (IntKind.i64.wrap (IntKind.u32.wrap (h.cum - y_1))).toNat) : Int))) ∧
  some (SV.a (9 : Nat)) = some (SV.a (9 : Nat)) ∧ some (SV.p (2 : Nat) (2 : Nat)) = some (SV.p (2 : Nat) (2 : Nat)) ∧ some (SV.p (2 : Nat) (0 : Nat)) = some (SV.p (2 : Nat) (0 : Nat)) ∧
  some (SV.p (2 : Nat) (0 : Nat)) = some (SV.p (2 : Nat) (0 : Nat)) ∧ some (SV.p (2 : Nat) (2 : Nat)) = some (SV.p (2 : Nat) (2 : Nat)) ∧ some (SV.p (2 : Nat) (0 : Nat)) = some (SV.p (2 : Nat) (0 : Nat)) ∧
  some (SV.a (9 : Nat)) = some (SV.a (9 : Nat)) ∧ some (SV.c (Value.int IntKind.i64 (IntKind.i64.wrap (IntKind.u32.wrap (h.cum - y_1))))) = some (SV.c (Value.int IntKind.i64 (IntKind.i64.wrap (IntKind.u32.wrap (h.cum - y_1))))) ∧
  some (SV.a (1 : Nat)) = some (SV.a (1 : Nat)) ∧ some (SV.p (2 : Nat) (2 : Nat)) = some (SV.p (2 : Nat) (2 : Nat)) ∧ some (SV.p (2 : Nat) (0 : Nat)) = some (SV.p (2 : Nat) (0 : Nat)) ∧
  some (SV.p (2 : Nat) (0 : Nat)) = some (SV.p (2 : Nat) (0 : Nat)) ∧ some (SV.p (2 : Nat) (0 : Nat)) = some (SV.p (2 : Nat) (0 : Nat)) ∧ some (SV.c (Value.bool (decide ((↑g : Int) < (↑(IntKind.i64.wrap (IntKind.u32.wrap (h.cum - y_1))).toNat : Int))))) = some (SV.c (Value.bool (decide ((↑g : Int) < (↑(IntKind.i64.wrap (IntKind.u32.wrap (h.cum - y_1))).toNat : Int))))) ∧
  some (SV.c (Value.int IntKind.i64 (↑g : Int))) = some (SV.c (Value.int IntKind.i64 (↑g : Int))) ∧ some (SV.c (Value.int IntKind.i64 (↑(IntKind.i64.wrap (IntKind.u32.wrap (h.cum - y_1))).toNat : Int))) = some (SV.c (Value.int IntKind.i64 (↑(IntKind.i64.wrap (IntKind.u32.wrap (h.cum - y_1))).toNat : Int))) ∧
  some (SV.hv (1 : Nat) (IntKind.i64.wrap (IntKind.u32.wrap (h.cum - y_1))).toNat) = some (SV.hv (1 : Nat) (IntKind.i64.wrap (IntKind.u32.wrap (h.cum - y_1))).toNat) ∧
  some (SV.c (Value.int IntKind.i64 (IntKind.i64.wrap (IntKind.u32.wrap (h.cum - y_1))))) = some (SV.c (Value.int IntKind.i64 (IntKind.i64.wrap (IntKind.u32.wrap (h.cum - y_1))))) ∧
  some (SV.a (1 : Nat)) = some (SV.a (1 : Nat)) ∧ some (SV.p (2 : Nat) (2 : Nat)) = some (SV.p (2 : Nat) (2 : Nat)) ∧ some (SV.p (2 : Nat) (0 : Nat)) = some (SV.p (2 : Nat) (0 : Nat)) ∧
  some (SV.p (2 : Nat) (0 : Nat)) = some (SV.p (2 : Nat) (0 : Nat)) ∧ some (SV.c (Value.int IntKind.i64 (IntKind.i64.wrap (IntKind.u32.wrap (h.cum - y_1))))) = some (SV.c (Value.int IntKind.i64 (IntKind.i64.wrap (IntKind.u32.wrap (h.cum - y_1))))) ∧
  some (SV.c (Value.int IntKind.i64 (IntKind.i64.wrap (IntKind.u32.wrap (h.cum - y_1))))) = some (SV.c (Value.int IntKind.i64 (IntKind.i64.wrap (IntKind.u32.wrap (h.cum - y_1))))) ∧
  some (SV.c (Value.int IntKind.u32 (IntKind.u32.wrap (h.cum - y_1)))) = some (SV.c (Value.int IntKind.u32 (IntKind.u32.wrap (h.cum - y_1)))) ∧ some (SV.c (Value.int IntKind.u32 y_1)) = some (SV.c (Value.int IntKind.u32 y_1)) ∧
  some (SV.c (Value.int IntKind.u32 h.cum)) = some (SV.c (Value.int IntKind.u32 h.cum)) ∧ some (SV.p (5 : Nat) (0 : Nat)) = some (SV.p (5 : Nat) (0 : Nat)) ∧
  some (SV.f (87 : Nat) (0 : Nat) [SV.p (6 : Nat) (0 : Nat)]) = some (SV.f (87 : Nat) (0 : Nat) [SV.p (6 : Nat) (0 : Nat)]) ∧ some (SV.f (87 : Nat) (0 : Nat) [SV.p (6 : Nat) (0 : Nat)]) = some (SV.f (87 : Nat) (0 : Nat) [SV.p (6 : Nat) (0 : Nat)]) ∧
  some (SV.a (7 : Nat)) = some (SV.a (7 : Nat)) ∧ some (SV.c (Value.bool !decide (IntKind.u32.wrap (h.cum - y_1) ≤ IntKind.u32.wrap (IntKind.u32.wrap (y_1 + IntKind.u32.wrap (↑q.out.length : Int)) - y_1)))) = some (SV.c (Value.bool !decide (IntKind.u32.wrap (h.cum - y_1) ≤ IntKind.u32.wrap (IntKind.u32.wrap (y_1 + IntKind.u32.wrap (↑q.out.length : Int)) - y_1)))) ∧
  some (SV.c (Value.bool (decide (IntKind.u32.wrap (h.cum - y_1) ≤ IntKind.u32.wrap (IntKind.u32.wrap (y_1 + IntKind.u32.wrap (↑q.out.length : Int)) - y_1))))) = some (SV.c (Value.bool (decide (IntKind.u32.wrap (h.cum - y_1) ≤ IntKind.u32.wrap (IntKind.u32.wrap (y_1 + IntKind.u32.wrap (↑q.out.length : Int)) - y_1))))) ∧
  some (SV.c (Value.int IntKind.u32 h.cum)) = some (SV.c (Value.int IntKind.u32 h.cum)) ∧ some (SV.p (5 : Nat) (0 : Nat)) = some (SV.p (5 : Nat) (0 : Nat)) ∧
  some (SV.c (Value.int IntKind.u32 (IntKind.u32.wrap (y_1 + IntKind.u32.wrap (↑q.out.length : Int))))) = some (SV.c (Value.int IntKind.u32 (IntKind.u32.wrap (y_1 + IntKind.u32.wrap (↑q.out.length : Int))))) ∧
  some (SV.c (Value.int IntKind.u32 (IntKind.u32.wrap (↑q.out.length : Int)))) = some (SV.c (Value.int IntKind.u32 (IntKind.u32.wrap (↑q.out.length : Int)))) ∧
  some (SV.c (Value.int IntKind.i64 (↑q.out.length : Int))) = some (SV.c (Value.int IntKind.i64 (↑q.out.length : Int))) ∧ some (SV.a (1 : Nat)) = some (SV.a (1 : Nat)) ∧
  some (SV.p (2 : Nat) (2 : Nat)) = some (SV.p (2 : Nat) (2 : Nat)) ∧ some (SV.p (2 : Nat) (0 : Nat)) = some (SV.p (2 : Nat) (0 : Nat)) ∧ some (SV.p (2 : Nat) (0 : Nat)) = some (SV.p (2 : Nat) (0 : Nat)) ∧
  some (SV.c (Value.int IntKind.u32 y_1)) = some (SV.c (Value.int IntKind.u32 y_1)) ∧ some (SV.c (Value.int IntKind.u32 y_1)) = some (SV.c (Value.int IntKind.u32 y_1)) ∧
  some (SV.c (Value.int IntKind.u32 y_1)) = some (SV.c (Value.int IntKind.u32 y_1)) ∧ some (SV.c (Value.int IntKind.u32 y_1)) = some (SV.c (Value.int IntKind.u32 y_1)) ∧
  some (SV.p (2 : Nat) (0 : Nat)) = some (SV.p (2 : Nat) (0 : Nat)) ∧ some (SV.c (Value.bool !apartF (gapsOf (D.recs (2 : Nat) h.gaps.length (gapCell h.gaps))))) = some (SV.c (Value.bool !apartF (gapsOf (D.recs (2 : Nat) h.gaps.length (gapCell h.gaps))))) ∧
  some (SV.c (Value.bool (apartF (gapsOf (D.recs (2 : Nat) h.gaps.length (gapCell h.gaps)))))) = some (SV.c (Value.bool (apartF (gapsOf (D.recs (2 : Nat) h.gaps.length (gapCell h.gaps)))))) ∧
  some (SV.a (3 : Nat)) = some (SV.a (3 : Nat)) ∧ some (SV.p (5 : Nat) (2 : Nat)) = some (SV.p (5 : Nat) (2 : Nat)) ∧ some (SV.b false) = some (SV.b false) ∧
  some (SV.p (2 : Nat) (0 : Nat)) = some (SV.p (2 : Nat) (0 : Nat)) ∧ some (SV.c (Value.int IntKind.i64 (0 : Int))) = some (SV.c (Value.int IntKind.i64 (0 : Int))) ∧
  some SV.nil = some SV.nil ∧ some (SV.p (6 : Nat) (0 : Nat)) = some (SV.p (6 : Nat) (0 : Nat)) ∧ some (SV.p (5 : Nat) (0 : Nat)) = some (SV.p (5 : Nat) (0 : Nat)) ∧
  some (SV.p (2 : Nat) (0 : Nat)) = some (SV.p (2 : Nat) (0 : Nat)) ∧ some (SV.agg [SV.c (Value.int IntKind.u32 h.cum), SV.c (Value.int IntKind.u32 h.win), SV.a (3 : Nat), SV.a (4 : Nat)]) = some (SV.agg [SV.c (Value.int IntKind.u32 h.cum), SV.c (Value.int IntKind.u32 h.win), SV.a (3 : Nat), SV.a (4 : Nat)]) ∧
  True) ∧ some (R.blk (166 : Nat) [SV.c (Value.int IntKind.u32 q.next), SV.a (0 : Nat), SV.a (9 : Nat)]) = some (R.blk (166 : Nat) [SV.c (Value.int IntKind.u32 q.next), SV.a (0 : Nat), SV.a (9 : Nat)]) ∧
  some R.dead = some R.dead ∧ some R.dead = some R.dead ∧ some (R.blk (35 : Nat) [SV.c (Value.int IntKind.u32 h.cum), SV.c (Value.int IntKind.u32 h.win), SV.a (3 : Nat), SV.a (4 : Nat)]) = some (R.blk (35 : Nat) [SV.c (Value.int IntKind.u32 h.cum), SV.c (Value.int IntKind.u32 h.win), SV.a (3 : Nat), SV.a (4 : Nat)]) ∧
  some (R.ro (D.ints IntKind.u32 h.dups)) = some (R.ro (D.ints IntKind.u32 h.dups)) ∧ some (R.ro (D.recs (2 : Nat) h.gaps.length (gapCell h.gaps))) = some (R.ro (D.recs (2 : Nat) h.gaps.length (gapCell h.gaps))) ∧
  some (R.own (86 : Nat) (D.recs (7 : Nat) q.wait.length (pieCell q.wait))) = some (R.own (86 : Nat) (D.recs (7 : Nat) q.wait.length (pieCell q.wait))) ∧
  True) ∧ True) ((List.drop (IntKind.i64.wrap (IntKind.u32.wrap (h.cum - y_1))).toNat bs)[(↑g_1 : Int).toNat]? = some b ∧ (List.drop (IntKind.i64.wrap (IntKind.u32.wrap (h.cum - y_1))).toNat bs)[(↑g_1 : Int).toNat]? = some b ∧
  True ∧ ∃ (g' : Nat), g' ≤ (out1 q h).length ∧ (out1 q h).length - g' < (out1 q h).length - g_1 ∧ (IntKind.i64.wrap ((↑g_1 : Int) + (1 : Int)) = (↑g' : Int) ∧
  (↑g_1 : Int) = lastG h.gaps g' ∧ ac2 q h g_1 = ac2 q h g' ∧ (List.drop (IntKind.i64.wrap (IntKind.u32.wrap (h.cum - y_1))).toNat bs = List.drop (IntKind.i64.wrap (IntKind.u32.wrap (h.cum - y_1))).toNat bs ∧
  q.out.length - (IntKind.i64.wrap (IntKind.u32.wrap (h.cum - y_1))).toNat = q.out.length - (IntKind.i64.wrap (IntKind.u32.wrap (h.cum - y_1))).toNat ∧ ∀ (i : Nat), i < q.out.length - (IntKind.i64.wrap (IntKind.u32.wrap (h.cum - y_1))).toNat →
  ∀ (j : Nat), j < (11 : Nat) → setRecM (setRecM (itCell (mapTo (gapI h.gaps) (out1 q h) g_1)) (↑g_1 : Int).toNat (9 : Nat) [D.v (Value.bool true)]) (↑g_1 : Int).toNat (10 : Nat) [D.v (Value.bool false)] i j = itCell (mapTo (gapI h.gaps) (out1 q h) g') i j) ∧
  (!(Nat.beq (10 : Nat) (6 : Nat) || (Nat.beq (9 : Nat) (6 : Nat) || false)) && (!(Nat.beq (9 : Nat) (10 : Nat) || false) && (!false && true)) && true && ((Nat.ble (10 : Nat) (6 : Nat) || (Nat.beq (6 : Nat) (6 : Nat) || (Nat.beq (8 : Nat) (6 : Nat) || (Nat.beq (9 : Nat) (6 : Nat) || false)))) && ((Nat.ble (10 : Nat) (10 : Nat) || (Nat.beq (6 : Nat) (10 : Nat) || (Nat.beq (8 : Nat) (10 : Nat) || (Nat.beq (9 : Nat) (10 : Nat) || false)))) && ((Nat.ble (10 : Nat) (9 : Nat) || (Nat.beq (6 : Nat) (9 : Nat) || (Nat.beq (8 : Nat) (9 : Nat) || (Nat.beq (9 : Nat) (9 : Nat) || false)))) && true)))) = true) ∧
  (some (SV.c (Value.int IntKind.i64 (↑(q.out.length - (IntKind.i64.wrap (IntKind.u32.wrap (h.cum - y_1))).toNat) : Int))) = some (SV.c (Value.int IntKind.i64 (↑(q.out.length - (IntKind.i64.wrap (IntKind.u32.wrap (h.cum - y_1))).toNat) : Int))) ∧
  some (SV.a (9 : Nat)) = some (SV.a (9 : Nat)) ∧ some (SV.p (2 : Nat) (2 : Nat)) = some (SV.p (2 : Nat) (2 : Nat)) ∧ some (SV.p (2 : Nat) (0 : Nat)) = some (SV.p (2 : Nat) (0 : Nat)) ∧
  some (SV.p (2 : Nat) (0 : Nat)) = some (SV.p (2 : Nat) (0 : Nat)) ∧ some (SV.p (2 : Nat) (2 : Nat)) = some (SV.p (2 : Nat) (2 : Nat)) ∧ some (SV.p (2 : Nat) (0 : Nat)) = some (SV.p (2 : Nat) (0 : Nat)) ∧
  some (SV.a (9 : Nat)) = some (SV.a (9 : Nat)) ∧ some (SV.c (Value.int IntKind.i64 (IntKind.i64.wrap (IntKind.u32.wrap (h.cum - y_1))))) = some (SV.c (Value.int IntKind.i64 (IntKind.i64.wrap (IntKind.u32.wrap (h.cum - y_1))))) ∧
  some (SV.a (1 : Nat)) = some (SV.a (1 : Nat)) ∧ some (SV.p (2 : Nat) (2 : Nat)) = some (SV.p (2 : Nat) (2 : Nat)) ∧ some (SV.p (2 : Nat) (0 : Nat)) = some (SV.p (2 : Nat) (0 : Nat)) ∧
  some (SV.p (2 : Nat) (0 : Nat)) = some (SV.p (2 : Nat) (0 : Nat)) ∧ some (SV.p (2 : Nat) (0 : Nat)) = some (SV.p (2 : Nat) (0 : Nat)) ∧ some (SV.c (Value.bool (decide ((↑g : Int) < (↑(IntKind.i64.wrap (IntKind.u32.wrap (h.cum - y_1))).toNat : Int))))) = some (SV.c (Value.bool (decide ((↑g : Int) < (↑(IntKind.i64.wrap (IntKind.u32.wrap (h.cum - y_1))).toNat : Int))))) ∧
  some (SV.c (Value.int IntKind.i64 (↑g : Int))) = some (SV.c (Value.int IntKind.i64 (↑g : Int))) ∧ some (SV.c (Value.int IntKind.i64 (↑(IntKind.i64.wrap (IntKind.u32.wrap (h.cum - y_1))).toNat : Int))) = some (SV.c (Value.int IntKind.i64 (↑(IntKind.i64.wrap (IntKind.u32.wrap (h.cum - y_1))).toNat : Int))) ∧
  some (SV.hv (1 : Nat) (IntKind.i64.wrap (IntKind.u32.wrap (h.cum - y_1))).toNat) = some (SV.hv (1 : Nat) (IntKind.i64.wrap (IntKind.u32.wrap (h.cum - y_1))).toNat) ∧
  some (SV.c (Value.int IntKind.i64 (IntKind.i64.wrap (IntKind.u32.wrap (h.cum - y_1))))) = some (SV.c (Value.int IntKind.i64 (IntKind.i64.wrap (IntKind.u32.wrap (h.cum - y_1))))) ∧
  some (SV.a (1 : Nat)) = some (SV.a (1 : Nat)) ∧ some (SV.p (2 : Nat) (2 : Nat)) = some (SV.p (2 : Nat) (2 : Nat)) ∧ some (SV.p (2 : Nat) (0 : Nat)) = some (SV.p (2 : Nat) (0 : Nat)) ∧
  some (SV.p (2 : Nat) (0 : Nat)) = some (SV.p (2 : Nat) (0 : Nat)) ∧ some (SV.c (Value.int IntKind.i64 (IntKind.i64.wrap (IntKind.u32.wrap (h.cum - y_1))))) = some (SV.c (Value.int IntKind.i64 (IntKind.i64.wrap (IntKind.u32.wrap (h.cum - y_1))))) ∧
  some (SV.c (Value.int IntKind.i64 (IntKind.i64.wrap (IntKind.u32.wrap (h.cum - y_1))))) = some (SV.c (Value.int IntKind.i64 (IntKind.i64.wrap (IntKind.u32.wrap (h.cum - y_1))))) ∧
  some (SV.c (Value.int IntKind.u32 (IntKind.u32.wrap (h.cum - y_1)))) = some (SV.c (Value.int IntKind.u32 (IntKind.u32.wrap (h.cum - y_1)))) ∧ some (SV.c (Value.int IntKind.u32 y_1)) = some (SV.c (Value.int IntKind.u32 y_1)) ∧
  some (SV.c (Value.int IntKind.u32 h.cum)) = some (SV.c (Value.int IntKind.u32 h.cum)) ∧ some (SV.p (5 : Nat) (0 : Nat)) = some (SV.p (5 : Nat) (0 : Nat)) ∧
  some (SV.f (87 : Nat) (0 : Nat) [SV.p (6 : Nat) (0 : Nat)]) = some (SV.f (87 : Nat) (0 : Nat) [SV.p (6 : Nat) (0 : Nat)]) ∧ some (SV.f (87 : Nat) (0 : Nat) [SV.p (6 : Nat) (0 : Nat)]) = some (SV.f (87 : Nat) (0 : Nat) [SV.p (6 : Nat) (0 : Nat)]) ∧
  some (SV.a (7 : Nat)) = some (SV.a (7 : Nat)) ∧ some (SV.c (Value.bool !decide (IntKind.u32.wrap (h.cum - y_1) ≤ IntKind.u32.wrap (IntKind.u32.wrap (y_1 + IntKind.u32.wrap (↑q.out.length : Int)) - y_1)))) = some (SV.c (Value.bool !decide (IntKind.u32.wrap (h.cum - y_1) ≤ IntKind.u32.wrap (IntKind.u32.wrap (y_1 + IntKind.u32.wrap (↑q.out.length : Int)) - y_1)))) ∧
  some (SV.c (Value.bool (decide (IntKind.u32.wrap (h.cum - y_1) ≤ IntKind.u32.wrap (IntKind.u32.wrap (y_1 + IntKind.u32.wrap (↑q.out.length : Int)) - y_1))))) = some (SV.c (Value.bool (decide (IntKind.u32.wrap (h.cum - y_1) ≤ IntKind.u32.wrap (IntKind.u32.wrap (y_1 + IntKind.u32.wrap (↑q.out.length : Int)) - y_1))))) ∧
  some (SV.c (Value.int IntKind.u32 h.cum)) = some (SV.c (Value.int IntKind.u32 h.cum)) ∧ some (SV.p (5 : Nat) (0 : Nat)) = some (SV.p (5 : Nat) (0 : Nat)) ∧
  some (SV.c (Value.int IntKind.u32 (IntKind.u32.wrap (y_1 + IntKind.u32.wrap (↑q.out.length : Int))))) = some (SV.c (Value.int IntKind.u32 (IntKind.u32.wrap (y_1 + IntKind.u32.wrap (↑q.out.length : Int))))) ∧
  some (SV.c (Value.int IntKind.u32 (IntKind.u32.wrap (↑q.out.length : Int)))) = some (SV.c (Value.int IntKind.u32 (IntKind.u32.wrap (↑q.out.length : Int)))) ∧
  some (SV.c (Value.int IntKind.i64 (↑q.out.length : Int))) = some (SV.c (Value.int IntKind.i64 (↑q.out.length : Int))) ∧ some (SV.a (1 : Nat)) = some (SV.a (1 : Nat)) ∧
  some (SV.p (2 : Nat) (2 : Nat)) = some (SV.p (2 : Nat) (2 : Nat)) ∧ some (SV.p (2 : Nat) (0 : Nat)) = some (SV.p (2 : Nat) (0 : Nat)) ∧ some (SV.p (2 : Nat) (0 : Nat)) = some (SV.p (2 : Nat) (0 : Nat)) ∧
  some (SV.c (Value.int IntKind.u32 y_1)) = some (SV.c (Value.int IntKind.u32 y_1)) ∧ some (SV.c (Value.int IntKind.u32 y_1)) = some (SV.c (Value.int IntKind.u32 y_1)) ∧
  some (SV.c (Value.int IntKind.u32 y_1)) = some (SV.c (Value.int IntKind.u32 y_1)) ∧ some (SV.c (Value.int IntKind.u32 y_1)) = some (SV.c (Value.int IntKind.u32 y_1)) ∧
  some (SV.p (2 : Nat) (0 : Nat)) = some (SV.p (2 : Nat) (0 : Nat)) ∧ some (SV.c (Value.bool !apartF (gapsOf (D.recs (2 : Nat) h.gaps.length (gapCell h.gaps))))) = some (SV.c (Value.bool !apartF (gapsOf (D.recs (2 : Nat) h.gaps.length (gapCell h.gaps))))) ∧
  some (SV.c (Value.bool (apartF (gapsOf (D.recs (2 : Nat) h.gaps.length (gapCell h.gaps)))))) = some (SV.c (Value.bool (apartF (gapsOf (D.recs (2 : Nat) h.gaps.length (gapCell h.gaps)))))) ∧
  some (SV.a (3 : Nat)) = some (SV.a (3 : Nat)) ∧ some (SV.p (5 : Nat) (2 : Nat)) = some (SV.p (5 : Nat) (2 : Nat)) ∧ some (SV.b false) = some (SV.b false) ∧
  some (SV.p (2 : Nat) (0 : Nat)) = some (SV.p (2 : Nat) (0 : Nat)) ∧ some (SV.c (Value.int IntKind.i64 (0 : Int))) = some (SV.c (Value.int IntKind.i64 (0 : Int))) ∧
  some SV.nil = some SV.nil ∧ some (SV.p (6 : Nat) (0 : Nat)) = some (SV.p (6 : Nat) (0 : Nat)) ∧ some (SV.p (5 : Nat) (0 : Nat)) = some (SV.p (5 : Nat) (0 : Nat)) ∧
  some (SV.p (2 : Nat) (0 : Nat)) = some (SV.p (2 : Nat) (0 : Nat)) ∧ some (SV.agg [SV.c (Value.int IntKind.u32 h.cum), SV.c (Value.int IntKind.u32 h.win), SV.a (3 : Nat), SV.a (4 : Nat)]) = some (SV.agg [SV.c (Value.int IntKind.u32 h.cum), SV.c (Value.int IntKind.u32 h.win), SV.a (3 : Nat), SV.a (4 : Nat)]) ∧
  True) ∧ some (R.blk (166 : Nat) [SV.c (Value.int IntKind.u32 q.next), SV.a (0 : Nat), SV.a (9 : Nat)]) = some (R.blk (166 : Nat) [SV.c (Value.int IntKind.u32 q.next), SV.a (0 : Nat), SV.a (9 : Nat)]) ∧
  some R.dead = some R.dead ∧ some R.dead = some R.dead ∧ some (R.blk (35 : Nat) [SV.c (Value.int IntKind.u32 h.cum), SV.c (Value.int IntKind.u32 h.win), SV.a (3 : Nat), SV.a (4 : Nat)]) = some (R.blk (35 : Nat) [SV.c (Value.int IntKind.u32 h.cum), SV.c (Value.int IntKind.u32 h.win), SV.a (3 : Nat), SV.a (4 : Nat)]) ∧
  some (R.ro (D.ints IntKind.u32 h.dups)) = some (R.ro (D.ints IntKind.u32 h.dups)) ∧ some (R.ro (D.recs (2 : Nat) h.gaps.length (gapCell h.gaps))) = some (R.ro (D.recs (2 : Nat) h.gaps.length (gapCell h.gaps))) ∧
  some (R.own (86 : Nat) (D.recs (7 : Nat) q.wait.length (pieCell q.wait))) = some (R.own (86 : Nat) (D.recs (7 : Nat) q.wait.length (pieCell q.wait))) ∧
  True)) ((List.drop (IntKind.i64.wrap (IntKind.u32.wrap (h.cum - y_1))).toNat bs)[(↑g_1 : Int).toNat]? = some b ∧ True ∧ ∃ (g' : Nat), g' ≤ (out1 q h).length ∧
  (out1 q h).length - g' < (out1 q h).length - g_1 ∧ (IntKind.i64.wrap ((↑g_1 : Int) + (1 : Int)) = (↑g' : Int) ∧ lastG h.gaps g_1 = lastG h.gaps g' ∧ ac2 q h g_1 = ac2 q h g' ∧
  (List.drop (IntKind.i64.wrap (IntKind.u32.wrap (h.cum - y_1))).toNat bs = List.drop (IntKind.i64.wrap (IntKind.u32.wrap (h.cum - y_1))).toNat bs ∧ q.out.length - (IntKind.i64.wrap (IntKind.u32.wrap (h.cum - y_1))).toNat = q.out.length - (IntKind.i64.wrap (IntKind.u32.wrap (h.cum - y_1))).toNat ∧
  ∀ (i : Nat), i < q.out.length - (IntKind.i64.wrap (IntKind.u32.wrap (h.cum - y_1))).toNat → ∀ (j : Nat), j < (11 : Nat) → setRecM (itCell (mapTo (gapI h.gaps) (out1 q h) g_1)) (↑g_1 : Int).toNat (9 : Nat) [D.v (Value.bool false)] i j = itCell (mapTo (gapI h.gaps) (out1 q h) g') i j) ∧
  (!(Nat.beq (10 : Nat) (6 : Nat) || (Nat.beq (9 : Nat) (6 : Nat) || false)) && (!(Nat.beq (9 : Nat) (10 : Nat) || false) && (!false && true)) && true && ((Nat.ble (10 : Nat) (6 : Nat) || (Nat.beq (6 : Nat) (6 : Nat) || (Nat.beq (8 : Nat) (6 : Nat) || (Nat.beq (9 : Nat) (6 : Nat) || false)))) && ((Nat.ble (10 : Nat) (10 : Nat) || (Nat.beq (6 : Nat) (10 : Nat) || (Nat.beq (8 : Nat) (10 : Nat) || (Nat.beq (9 : Nat) (10 : Nat) || false)))) && ((Nat.ble (10 : Nat) (9 : Nat) || (Nat.beq (6 : Nat) (9 : Nat) || (Nat.beq (8 : Nat) (9 : Nat) || (Nat.beq (9 : Nat) (9 : Nat) || false)))) && true)))) = true) ∧
  (some (SV.c (Value.int IntKind.i64 (↑(q.out.length - (IntKind.i64.wrap (IntKind.u32.wrap (h.cum - y_1))).toNat) : Int))) = some (SV.c (Value.int IntKind.i64 (↑(q.out.length - (IntKind.i64.wrap (IntKind.u32.wrap (h.cum - y_1))).toNat) : Int))) ∧
  some (SV.a (9 : Nat)) = some (SV.a (9 : Nat)) ∧ some (SV.p (2 : Nat) (2 : Nat)) = some (SV.p (2 : Nat) (2 : Nat)) ∧ some (SV.p (2 : Nat) (0 : Nat)) = some (SV.p (2 : Nat) (0 : Nat)) ∧
  some (SV.p (2 : Nat) (0 : Nat)) = some (SV.p (2 : Nat) (0 : Nat)) ∧ some (SV.p (2 : Nat) (2 : Nat)) = some (SV.p (2 : Nat) (2 : Nat)) ∧ some (SV.p (2 : Nat) (0 : Nat)) = some (SV.p (2 : Nat) (0 : Nat)) ∧
  some (SV.a (9 : Nat)) = some (SV.a (9 : Nat)) ∧ some (SV.c (Value.int IntKind.i64 (IntKind.i64.wrap (IntKind.u32.wrap (h.cum - y_1))))) = some (SV.c (Value.int IntKind.i64 (IntKind.i64.wrap (IntKind.u32.wrap (h.cum - y_1))))) ∧
  some (SV.a (1 : Nat)) = some (SV.a (1 : Nat)) ∧ some (SV.p (2 : Nat) (2 : Nat)) = some (SV.p (2 : Nat) (2 : Nat)) ∧ some (SV.p (2 : Nat) (0 : Nat)) = some (SV.p (2 : Nat) (0 : Nat)) ∧
  some (SV.p (2 : Nat) (0 : Nat)) = some (SV.p (2 : Nat) (0 : Nat)) ∧ some (SV.p (2 : Nat) (0 : Nat)) = some (SV.p (2 : Nat) (0 : Nat)) ∧ some (SV.c (Value.bool (decide ((↑g : Int) < (↑(IntKind.i64.wrap (IntKind.u32.wrap (h.cum - y_1))).toNat : Int))))) = some (SV.c (Value.bool (decide ((↑g : Int) < (↑(IntKind.i64.wrap (IntKind.u32.wrap (h.cum - y_1))).toNat : Int))))) ∧
  some (SV.c (Value.int IntKind.i64 (↑g : Int))) = some (SV.c (Value.int IntKind.i64 (↑g : Int))) ∧ some (SV.c (Value.int IntKind.i64 (↑(IntKind.i64.wrap (IntKind.u32.wrap (h.cum - y_1))).toNat : Int))) = some (SV.c (Value.int IntKind.i64 (↑(IntKind.i64.wrap (IntKind.u32.wrap (h.cum - y_1))).toNat : Int))) ∧
  some (SV.hv (1 : Nat) (IntKind.i64.wrap (IntKind.u32.wrap (h.cum - y_1))).toNat) = some (SV.hv (1 : Nat) (IntKind.i64.wrap (IntKind.u32.wrap (h.cum - y_1))).toNat) ∧
  some (SV.c (Value.int IntKind.i64 (IntKind.i64.wrap (IntKind.u32.wrap (h.cum - y_1))))) = some (SV.c (Value.int IntKind.i64 (IntKind.i64.wrap (IntKind.u32.wrap (h.cum - y_1))))) ∧
  some (SV.a (1 : Nat)) = some (SV.a (1 : Nat)) ∧ some (SV.p (2 : Nat) (2 : Nat)) = some (SV.p (2 : Nat) (2 : Nat)) ∧ some (SV.p (2 : Nat) (0 : Nat)) = some (SV.p (2 : Nat) (0 : Nat)) ∧
  some (SV.p (2 : Nat) (0 : Nat)) = some (SV.p (2 : Nat) (0 : Nat)) ∧ some (SV.c (Value.int IntKind.i64 (IntKind.i64.wrap (IntKind.u32.wrap (h.cum - y_1))))) = some (SV.c (Value.int IntKind.i64 (IntKind.i64.wrap (IntKind.u32.wrap (h.cum - y_1))))) ∧
  some (SV.c (Value.int IntKind.i64 (IntKind.i64.wrap (IntKind.u32.wrap (h.cum - y_1))))) = some (SV.c (Value.int IntKind.i64 (IntKind.i64.wrap (IntKind.u32.wrap (h.cum - y_1))))) ∧
  some (SV.c (Value.int IntKind.u32 (IntKind.u32.wrap (h.cum - y_1)))) = some (SV.c (Value.int IntKind.u32 (IntKind.u32.wrap (h.cum - y_1)))) ∧ some (SV.c (Value.int IntKind.u32 y_1)) = some (SV.c (Value.int IntKind.u32 y_1)) ∧
  some (SV.c (Value.int IntKind.u32 h.cum)) = some (SV.c (Value.int IntKind.u32 h.cum)) ∧ some (SV.p (5 : Nat) (0 : Nat)) = some (SV.p (5 : Nat) (0 : Nat)) ∧
  some (SV.f (87 : Nat) (0 : Nat) [SV.p (6 : Nat) (0 : Nat)]) = some (SV.f (87 : Nat) (0 : Nat) [SV.p (6 : Nat) (0 : Nat)]) ∧ some (SV.f (87 : Nat) (0 : Nat) [SV.p (6 : Nat) (0 : Nat)]) = some (SV.f (87 : Nat) (0 : Nat) [SV.p (6 : Nat) (0 : Nat)]) ∧
  some (SV.a (7 : Nat)) = some (SV.a (7 : Nat)) ∧ some (SV.c (Value.bool !decide (IntKind.u32.wrap (h.cum - y_1) ≤ IntKind.u32.wrap (IntKind.u32.wrap (y_1 + IntKind.u32.wrap (↑q.out.length : Int)) - y_1)))) = some (SV.c (Value.bool !decide (IntKind.u32.wrap (h.cum - y_1) ≤ IntKind.u32.wrap (IntKind.u32.wrap (y_1 + IntKind.u32.wrap (↑q.out.length : Int)) - y_1)))) ∧
  some (SV.c (Value.bool (decide (IntKind.u32.wrap (h.cum - y_1) ≤ IntKind.u32.wrap (IntKind.u32.wrap (y_1 + IntKind.u32.wrap (↑q.out.length : Int)) - y_1))))) = some (SV.c (Value.bool (decide (IntKind.u32.wrap (h.cum - y_1) ≤ IntKind.u32.wrap (IntKind.u32.wrap (y_1 + IntKind.u32.wrap (↑q.out.length : Int)) - y_1))))) ∧
  some (SV.c (Value.int IntKind.u32 h.cum)) = some (SV.c (Value.int IntKind.u32 h.cum)) ∧ some (SV.p (5 : Nat) (0 : Nat)) = some (SV.p (5 : Nat) (0 : Nat)) ∧
  some (SV.c (Value.int IntKind.u32 (IntKind.u32.wrap (y_1 + IntKind.u32.wrap (↑q.out.length : Int))))) = some (SV.c (Value.int IntKind.u32 (IntKind.u32.wrap (y_1 + IntKind.u32.wrap (↑q.out.length : Int))))) ∧
  some (SV.c (Value.int IntKind.u32 (IntKind.u32.wrap (↑q.out.length : Int)))) = some (SV.c (Value.int IntKind.u32 (IntKind.u32.wrap (↑q.out.length : Int)))) ∧
  some (SV.c (Value.int IntKind.i64 (↑q.out.length : Int))) = some (SV.c (Value.int IntKind.i64 (↑q.out.length : Int))) ∧ some (SV.a (1 : Nat)) = some (SV.a (1 : Nat)) ∧
  some (SV.p (2 : Nat) (2 : Nat)) = some (SV.p (2 : Nat) (2 : Nat)) ∧ some (SV.p (2 : Nat) (0 : Nat)) = some (SV.p (2 : Nat) (0 : Nat)) ∧ some (SV.p (2 : Nat) (0 : Nat)) = some (SV.p (2 : Nat) (0 : Nat)) ∧
  some (SV.c (Value.int IntKind.u32 y_1)) = some (SV.c (Value.int IntKind.u32 y_1)) ∧ some (SV.c (Value.int IntKind.u32 y_1)) = some (SV.c (Value.int IntKind.u32 y_1)) ∧
  some (SV.c (Value.int IntKind.u32 y_1)) = some (SV.c (Value.int IntKind.u32 y_1)) ∧ some (SV.c (Value.int IntKind.u32 y_1)) = some (SV.c (Value.int IntKind.u32 y_1)) ∧
  some (SV.p (2 : Nat) (0 : Nat)) = some (SV.p (2 : Nat) (0 : Nat)) ∧ some (SV.c (Value.bool !apartF (gapsOf (D.recs (2 : Nat) h.gaps.length (gapCell h.gaps))))) = some (SV.c (Value.bool !apartF (gapsOf (D.recs (2 : Nat) h.gaps.length (gapCell h.gaps))))) ∧
  some (SV.c (Value.bool (apartF (gapsOf (D.recs (2 : Nat) h.gaps.length (gapCell h.gaps)))))) = some (SV.c (Value.bool (apartF (gapsOf (D.recs (2 : Nat) h.gaps.length (gapCell h.gaps)))))) ∧
  some (SV.a (3 : Nat)) = some (SV.a (3 : Nat)) ∧ some (SV.p (5 : Nat) (2 : Nat)) = some (SV.p (5 : Nat) (2 : Nat)) ∧ some (SV.b false) = some (SV.b false) ∧
  some (SV.p (2 : Nat) (0 : Nat)) = some (SV.p (2 : Nat) (0 : Nat)) ∧ some (SV.c (Value.int IntKind.i64 (0 : Int))) = some (SV.c (Value.int IntKind.i64 (0 : Int))) ∧
  some SV.nil = some SV.nil ∧ some (SV.p (6 : Nat) (0 : Nat)) = some (SV.p (6 : Nat) (0 : Nat)) ∧ some (SV.p (5 : Nat) (0 : Nat)) = some (SV.p (5 : Nat) (0 : Nat)) ∧
  some (SV.p (2 : Nat) (0 : Nat)) = some (SV.p (2 : Nat) (0 : Nat)) ∧ some (SV.agg [SV.c (Value.int IntKind.u32 h.cum), SV.c (Value.int IntKind.u32 h.win), SV.a (3 : Nat), SV.a (4 : Nat)]) = some (SV.agg [SV.c (Value.int IntKind.u32 h.cum), SV.c (Value.int IntKind.u32 h.win), SV.a (3 : Nat), SV.a (4 : Nat)]) ∧
  True) ∧ some (R.blk (166 : Nat) [SV.c (Value.int IntKind.u32 q.next), SV.a (0 : Nat), SV.a (9 : Nat)]) = some (R.blk (166 : Nat) [SV.c (Value.int IntKind.u32 q.next), SV.a (0 : Nat), SV.a (9 : Nat)]) ∧
  some R.dead = some R.dead ∧ some R.dead = some R.dead ∧ some (R.blk (35 : Nat) [SV.c (Value.int IntKind.u32 h.cum), SV.c (Value.int IntKind.u32 h.win), SV.a (3 : Nat), SV.a (4 : Nat)]) = some (R.blk (35 : Nat) [SV.c (Value.int IntKind.u32 h.cum), SV.c (Value.int IntKind.u32 h.win), SV.a (3 : Nat), SV.a (4 : Nat)]) ∧
  some (R.ro (D.ints IntKind.u32 h.dups)) = some (R.ro (D.ints IntKind.u32 h.dups)) ∧ some (R.ro (D.recs (2 : Nat) h.gaps.length (gapCell h.gaps))) = some (R.ro (D.recs (2 : Nat) h.gaps.length (gapCell h.gaps))) ∧
  some (R.own (86 : Nat) (D.recs (7 : Nat) q.wait.length (pieCell q.wait))) = some (R.own (86 : Nat) (D.recs (7 : Nat) q.wait.length (pieCell q.wait))) ∧
  True)) (True ∧ ((0 : Int) ≤ IntKind.i64.wrap (lastG h.gaps g_1 + (1 : Int)) ∧ IntKind.i64.wrap (lastG h.gaps g_1 + (1 : Int)) ≤ (↑(q.out.length - (IntKind.i64.wrap (IntKind.u32.wrap (h.cum - y_1))).toNat) : Int)) ∧
  ∃ (g0_2 : Nat), g0_2 ≤ last2 q h ∧ (0 : Int) = (↑g0_2 : Int) ∧ fast3 q h g0_2 = [] ∧ (List.drop (IntKind.i64.wrap (IntKind.u32.wrap (h.cum - y_1))).toNat bs = List.drop (IntKind.i64.wrap (IntKind.u32.wrap (h.cum - y_1))).toNat bs ∧
  q.out.length - (IntKind.i64.wrap (IntKind.u32.wrap (h.cum - y_1))).toNat = q.out.length - (IntKind.i64.wrap (IntKind.u32.wrap (h.cum - y_1))).toNat ∧ ∀ (i : Nat), i < q.out.length - (IntKind.i64.wrap (IntKind.u32.wrap (h.cum - y_1))).toNat →
  ∀ (j : Nat), j < (11 : Nat) → itCell (mapTo (gapI h.gaps) (out1 q h) g_1) i j = itCell (mapTo (fun (_x : Nat) => missI) (out2 q h) g0_2) i j) ∧ (!false && true && true) = true ∧
  ∀ (g_2 : Nat), g_2 ≤ last2 q h → True ∧ sw (decide ((↑g_2 : Int) < (↑(IntKind.i64.wrap (lastG h.gaps g_1 + (1 : Int))).toNat : Int))) (((0 : Int) ≤ (↑g_2 : Int) ∧
  (↑g_2 : Int) < (↑(IntKind.i64.wrap (lastG h.gaps g_1 + (1 : Int))).toNat : Int)) ∧ ∀ (b : Nat), (List.drop (IntKind.i64.wrap (IntKind.u32.wrap (h.cum - y_1))).toNat bs)[(↑g_2 : Int).toNat]? = some b →
  (List.drop (IntKind.i64.wrap (IntKind.u32.wrap (h.cum - y_1))).toNat bs)[(↑g_2 : Int).toNat]? = some b ∧ sw (!((mapTo (fun (_x : Nat) => missI) (out2 q h) g_2).getD (↑g_2 : Int).toNat noIt).heard) (SV.px (171 : Nat) (↑g_2 : Int).toNat b (0 : Nat) = SV.px (171 : Nat) (↑g_2 : Int).toNat b (0 : Nat)) True ∧
  sw (!((mapTo (fun (_x : Nat) => missI) (out2 q h) g_2).getD (↑g_2 : Int).toNat noIt).heard) ([!((mapTo (fun (_x : Nat) => missI) (out2 q h) g_2).getD (↑g_2 : Int).toNat noIt).heard] = [!((mapTo (fun (_x : Nat) => missI) (out2 q h) g_2).getD (↑g_2 : Int).toNat noIt).heard] ∧
  SV.px (171 : Nat) (↑g_2 : Int).toNat b (0 : Nat) = SV.px (171 : Nat) (↑g_2 : Int).toNat b (0 : Nat)) True ∧ sw (!((mapTo (fun (_x : Nat) => missI) (out2 q h) g_2).getD (↑g_2 : Int).toNat noIt).heard) ([!((mapTo (fun (_x : Nat) => missI) (out2 q h) g_2).getD (↑g_2 : Int).toNat noIt).heard] = [!((mapTo (fun (_x : Nat) => missI) (out2 q h) g_2).getD (↑g_2 : Int).toNat noIt).heard] ∧
  SV.px (171 : Nat) (↑g_2 : Int).toNat b (10 : Nat) = SV.px (171 : Nat) (↑g_2 : Int).toNat b (10 : Nat)) True ∧ sw (!((mapTo (fun (_x : Nat) => missI) (out2 q h) g_2).getD (↑g_2 : Int).toNat noIt).heard) ([!((mapTo (fun (_x : Nat) => missI) (out2 q h) g_2).getD (↑g_2 : Int).toNat noIt).heard] = [!((mapTo (fun (_x : Nat) => missI) (out2 q h) g_2).getD (↑g_2 : Int).toNat noIt).heard] ∧
  (List.drop (IntKind.i64.wrap (IntKind.u32.wrap (h.cum - y_1))).toNat bs)[(↑g_2 : Int).toNat]? = some b ∧ SV.c (Value.bool ((mapTo (fun (_x : Nat) => missI) (out2 q h) g_2).getD (↑g_2 : Int).toNat noIt).marked) = SV.c (Value.bool ((mapTo (fun (_x : Nat) => missI) (out2 q h) g_2).getD (↑g_2 : Int).toNat noIt).marked)) True ∧
  sw (!((mapTo (fun (_x : Nat) => missI) (out2 q h) g_2).getD (↑g_2 : Int).toNat noIt).heard) ([!((mapTo (fun (_x : Nat) => missI) (out2 q h) g_2).getD (↑g_2 : Int).toNat noIt).heard] = [!((mapTo (fun (_x : Nat) => missI) (out2 q h) g_2).getD (↑g_2 : Int).toNat noIt).heard] ∧
  SV.c (Value.bool !((mapTo (fun (_x : Nat) => missI) (out2 q h) g_2).getD (↑g_2 : Int).toNat noIt).marked) = SV.c (Value.bool !((mapTo (fun (_x : Nat) => missI) (out2 q h) g_2).getD (↑g_2 : Int).toNat noIt).marked)) True ∧
  [!((mapTo (fun (_x : Nat) => missI) (out2 q h) g_2).getD (↑g_2 : Int).toNat noIt).heard] = [!((mapTo (fun (_x : Nat) => missI) (out2 q h) g_2).getD (↑g_2 : Int).toNat noIt).heard] ∧
  sw (!(!((mapTo (fun (_x : Nat) => missI) (out2 q h) g_2).getD (↑g_2 : Int).toNat noIt).heard && !((mapTo (fun (_x : Nat) => missI) (out2 q h) g_2).getD (↑g_2 : Int).toNat noIt).marked)) (True ∧
  ∃ (g' : Nat), g' ≤ last2 q h ∧ last2 q h - g' < last2 q h - g_2 ∧ (IntKind.i64.wrap ((↑g_2 : Int) + (1 : Int)) = (↑g' : Int) ∧ fast3 q h g_2 = fast3 q h g' ∧
  (List.drop (IntKind.i64.wrap (IntKind.u32.wrap (h.cum - y_1))).toNat bs = List.drop (IntKind.i64.wrap (IntKind.u32.wrap (h.cum - y_1))).toNat bs ∧ q.out.length - (IntKind.i64.wrap (IntKind.u32.wrap (h.cum - y_1))).toNat = q.out.length - (IntKind.i64.wrap (IntKind.u32.wrap (h.cum - y_1))).toNat ∧
  ∀ (i : Nat), i < q.out.length - (IntKind.i64.wrap (IntKind.u32.wrap (h.cum - y_1))).toNat → ∀ (j : Nat), j < (11 : Nat) → itCell (mapTo (fun (_x : Nat) => missI) (out2 q h) g_2) i j = itCell (mapTo (fun (_x : Nat) => missI) (out2 q h) g') i j) ∧
  (!(Nat.beq (9 : Nat) (11 : Nat) || false) && (!false && true) && true && ((Nat.ble (11 : Nat) (11 : Nat) || (Nat.beq (9 : Nat) (11 : Nat) || false)) && ((Nat.ble (11 : Nat) (9 : Nat) || (Nat.beq (9 : Nat) (9 : Nat) || false)) && true))) = true) ∧
  (some (SV.c (Value.int IntKind.i64 (↑(IntKind.i64.wrap (lastG h.gaps g_1 + (1 : Int))).toNat : Int))) = some (SV.c (Value.int IntKind.i64 (↑(IntKind.i64.wrap (lastG h.gaps g_1 + (1 : Int))).toNat : Int))) ∧
  some (SV.hv (9 : Nat) (IntKind.i64.wrap (lastG h.gaps g_1 + (1 : Int))).toNat) = some (SV.hv (9 : Nat) (IntKind.i64.wrap (lastG h.gaps g_1 + (1 : Int))).toNat) ∧
  some (SV.c (Value.int IntKind.i64 (IntKind.i64.wrap (lastG h.gaps g_1 + (1 : Int))))) = some (SV.c (Value.int IntKind.i64 (IntKind.i64.wrap (lastG h.gaps g_1 + (1 : Int))))) ∧
  some (SV.c (Value.int IntKind.i64 (lastG h.gaps g_1))) = some (SV.c (Value.int IntKind.i64 (lastG h.gaps g_1))) ∧ some (SV.a (9 : Nat)) = some (SV.a (9 : Nat)) ∧
  some (SV.p (2 : Nat) (2 : Nat)) = some (SV.p (2 : Nat) (2 : Nat)) ∧ some (SV.p (2 : Nat) (0 : Nat)) = some (SV.p (2 : Nat) (0 : Nat)) ∧ some (SV.p (2 : Nat) (0 : Nat)) = some (SV.p (2 : Nat) (0 : Nat)) ∧
  some (SV.c (Value.bool (decide ((↑g_1 : Int) < (↑(q.out.length - (IntKind.i64.wrap (IntKind.u32.wrap (h.cum - y_1))).toNat) : Int))))) = some (SV.c (Value.bool (decide ((↑g_1 : Int) < (↑(q.out.length - (IntKind.i64.wrap (IntKind.u32.wrap (h.cum - y_1))).toNat) : Int))))) ∧
  some (SV.c (Value.int IntKind.i64 (↑g_1 : Int))) = some (SV.c (Value.int IntKind.i64 (↑g_1 : Int))) ∧ some (SV.c (Value.int IntKind.i64 (lastG h.gaps g_1))) = some (SV.c (Value.int IntKind.i64 (lastG h.gaps g_1))) ∧
  some (SV.c (Value.int IntKind.i64 (↑(q.out.length - (IntKind.i64.wrap (IntKind.u32.wrap (h.cum - y_1))).toNat) : Int))) = some (SV.c (Value.int IntKind.i64 (↑(q.out.length - (IntKind.i64.wrap (IntKind.u32.wrap (h.cum - y_1))).toNat) : Int))) ∧
  some (SV.a (9 : Nat)) = some (SV.a (9 : Nat)) ∧ some (SV.p (2 : Nat) (2 : Nat)) = some (SV.p (2 : Nat) (2 : Nat)) ∧ some (SV.p (2 : Nat) (0 : Nat)) = some (SV.p (2 : Nat) (0 : Nat)) ∧
  some (SV.p (2 : Nat) (0 : Nat)) = some (SV.p (2 : Nat) (0 : Nat)) ∧ some (SV.p (2 : Nat) (2 : Nat)) = some (SV.p (2 : Nat) (2 : Nat)) ∧ some (SV.p (2 : Nat) (0 : Nat)) = some (SV.p (2 : Nat) (0 : Nat)) ∧
  some (SV.a (9 : Nat)) = some (SV.a (9 : Nat)) ∧ some (SV.c (Value.int IntKind.i64 (IntKind.i64.wrap (IntKind.u32.wrap (h.cum - y_1))))) = some (SV.c (Value.int IntKind.i64 (IntKind.i64.wrap (IntKind.u32.wrap (h.cum - y_1))))) ∧
  some (SV.a (1 : Nat)) = some (SV.a (1 : Nat)) ∧ some (SV.p (2 : Nat) (2 : Nat)) = some (SV.p (2 : Nat) (2 : Nat)) ∧ some (SV.p (2 : Nat) (0 : Nat)) = some (SV.p (2 : Nat) (0 : Nat)) ∧
  some (SV.p (2 : Nat) (0 : Nat)) = some (SV.p (2 : Nat) (0 : Nat)) ∧ some (SV.p (2 : Nat) (0 : Nat)) = some (SV.p (2 : Nat) (0 : Nat)) ∧ some (SV.c (Value.bool (decide ((↑g : Int) < (↑(IntKind.i64.wrap (IntKind.u32.wrap (h.cum - y_1))).toNat : Int))))) = some (SV.c (Value.bool (decide ((↑g : Int) < (↑(IntKind.i64.wrap (IntKind.u32.wrap (h.cum - y_1))).toNat : Int))))) ∧
  some (SV.c (Value.int IntKind.i64 (↑g : Int))) = some (SV.c (Value.int IntKind.i64 (↑g : Int))) ∧ some (SV.c (Value.int IntKind.i64 (↑(IntKind.i64.wrap (IntKind.u32.wrap (h.cum - y_1))).toNat : Int))) = some (SV.c (Value.int IntKind.i64 (↑(IntKind.i64.wrap (IntKind.u32.wrap (h.cum - y_1))).toNat : Int))) ∧
  some (SV.hv (1 : Nat) (IntKind.i64.wrap (IntKind.u32.wrap (h.cum - y_1))).toNat) = some (SV.hv (1 : Nat) (IntKind.i64.wrap (IntKind.u32.wrap (h.cum - y_1))).toNat) ∧
  some (SV.c (Value.int IntKind.i64 (IntKind.i64.wrap (IntKind.u32.wrap (h.cum - y_1))))) = some (SV.c (Value.int IntKind.i64 (IntKind.i64.wrap (IntKind.u32.wrap (h.cum - y_1))))) ∧
  some (SV.a (1 : Nat)) = some (SV.a (1 : Nat)) ∧ some (SV.p (2 : Nat) (2 : Nat)) = some (SV.p (2 : Nat) (2 : Nat)) ∧ some (SV.p (2 : Nat) (0 : Nat)) = some (SV.p (2 : Nat) (0 : Nat)) ∧
  some (SV.p (2 : Nat) (0 : Nat)) = some (SV.p (2 : Nat) (0 : Nat)) ∧ some (SV.c (Value.int IntKind.i64 (IntKind.i64.wrap (IntKind.u32.wrap (h.cum - y_1))))) = some (SV.c (Value.int IntKind.i64 (IntKind.i64.wrap (IntKind.u32.wrap (h.cum - y_1))))) ∧
  some (SV.c (Value.int IntKind.i64 (IntKind.i64.wrap (IntKind.u32.wrap (h.cum - y_1))))) = some (SV.c (Value.int IntKind.i64 (IntKind.i64.wrap (IntKind.u32.wrap (h.cum - y_1))))) ∧
  some (SV.c (Value.int IntKind.u32 (IntKind.u32.wrap (h.cum - y_1)))) = some (SV.c (Value.int IntKind.u32 (IntKind.u32.wrap (h.cum - y_1)))) ∧ some (SV.c (Value.int IntKind.u32 y_1)) = some (SV.c (Value.int IntKind.u32 y_1)) ∧
  some (SV.c (Value.int IntKind.u32 h.cum)) = some (SV.c (Value.int IntKind.u32 h.cum)) ∧ some (SV.p (5 : Nat) (0 : Nat)) = some (SV.p (5 : Nat) (0 : Nat)) ∧
  some (SV.f (87 : Nat) (0 : Nat) [SV.p (6 : Nat) (0 : Nat)]) = some (SV.f (87 : Nat) (0 : Nat) [SV.p (6 : Nat) (0 : Nat)]) ∧ some (SV.f (87 : Nat) (0 : Nat) [SV.p (6 : Nat) (0 : Nat)]) = some (SV.f (87 : Nat) (0 : Nat) [SV.p (6 : Nat) (0 : Nat)]) ∧
  some (SV.a (7 : Nat)) = some (SV.a (7 : Nat)) ∧ some (SV.c (Value.bool !decide (IntKind.u32.wrap (h.cum - y_1) ≤ IntKind.u32.wrap (IntKind.u32.wrap (y_1 + IntKind.u32.wrap (↑q.out.length : Int)) - y_1)))) = some (SV.c (Value.bool !decide (IntKind.u32.wrap (h.cum - y_1) ≤ IntKind.u32.wrap (IntKind.u32.wrap (y_1 + IntKind.u32.wrap (↑q.out.length : Int)) - y_1)))) ∧
  some (SV.c (Value.bool (decide (IntKind.u32.wrap (h.cum - y_1) ≤ IntKind.u32.wrap (IntKind.u32.wrap (y_1 + IntKind.u32.wrap (↑q.out.length : Int)) - y_1))))) = some (SV.c (Value.bool (decide (IntKind.u32.wrap (h.cum - y_1) ≤ IntKind.u32.wrap (IntKind.u32.wrap (y_1 + IntKind.u32.wrap (↑q.out.length : Int)) - y_1))))) ∧
  some (SV.c (Value.int IntKind.u32 h.cum)) = some (SV.c (Value.int IntKind.u32 h.cum)) ∧ some (SV.p (5 : Nat) (0 : Nat)) = some (SV.p (5 : Nat) (0 : Nat)) ∧
  some (SV.c (Value.int IntKind.u32 (IntKind.u32.wrap (y_1 + IntKind.u32.wrap (↑q.out.length : Int))))) = some (SV.c (Value.int IntKind.u32 (IntKind.u32.wrap (y_1 + IntKind.u32.wrap (↑q.out.length : Int))))) ∧
  some (SV.c (Value.int IntKind.u32 (IntKind.u32.wrap (↑q.out.length : Int)))) = some (SV.c (Value.int IntKind.u32 (IntKind.u32.wrap (↑q.out.length : Int)))) ∧
  some (SV.c (Value.int IntKind.i64 (↑q.out.length : Int))) = some (SV.c (Value.int IntKind.i64 (↑q.out.length : Int))) ∧ some (SV.a (1 : Nat)) = some (SV.a (1 : Nat)) ∧
  some (SV.p (2 : Nat) (2 : Nat)) = some (SV.p (2 : Nat) (2 : Nat)) ∧ some (SV.p (2 : Nat) (0 : Nat)) = some (SV.p (2 : Nat) (0 : Nat)) ∧ some (SV.p (2 : Nat) (0 : Nat)) = some (SV.p (2 : Nat) (0 : Nat)) ∧
  some (SV.c (Value.int IntKind.u32 y_1)) = some (SV.c (Value.int IntKind.u32 y_1)) ∧ some (SV.c (Value.int IntKind.u32 y_1)) = some (SV.c (Value.int IntKind.u32 y_1)) ∧
  some (SV.c (Value.int IntKind.u32 y_1)) = some (SV.c (Value.int IntKind.u32 y_1)) ∧ some (SV.c (Value.int IntKind.u32 y_1)) = some (SV.c (Value.int IntKind.u32 y_1)) ∧
  some (SV.p (2 : Nat) (0 : Nat)) = some (SV.p (2 : Nat) (0 : Nat)) ∧ some (SV.c (Value.bool !apartF (gapsOf (D.recs (2 : Nat) h.gaps.length (gapCell h.gaps))))) = some (SV.c (Value.bool !apartF (gapsOf (D.recs (2 : Nat) h.gaps.length (gapCell h.gaps))))) ∧
  some (SV.c (Value.bool (apartF (gapsOf (D.recs (2 : Nat) h.gaps.length (gapCell h.gaps)))))) = some (SV.c (Value.bool (apartF (gapsOf (D.recs (2 : Nat) h.gaps.length (gapCell h.gaps)))))) ∧
  some (SV.a (3 : Nat)) = some (SV.a (3 : Nat)) ∧ some (SV.p (5 : Nat) (2 : Nat)) = some (SV.p (5 : Nat) (2 : Nat)) ∧ some (SV.b false) = some (SV.b false) ∧
  some (SV.p (2 : Nat) (0 : Nat)) = some (SV.p (2 : Nat) (0 : Nat)) ∧ some (SV.c (Value.int IntKind.i64 (0 : Int))) = some (SV.c (Value.int IntKind.i64 (0 : Int))) ∧
  some (SV.p (6 : Nat) (0 : Nat)) = some (SV.p (6 : Nat) (0 : Nat)) ∧ some (SV.p (5 : Nat) (0 : Nat)) = some (SV.p (5 : Nat) (0 : Nat)) ∧ some (SV.p (2 : Nat) (0 : Nat)) = some (SV.p (2 : Nat) (0 : Nat)) ∧
  some (SV.agg [SV.c (Value.int IntKind.u32 h.cum), SV.c (Value.int IntKind.u32 h.win), SV.a (3 : Nat), SV.a (4 : Nat)]) = some (SV.agg [SV.c (Value.int IntKind.u32 h.cum), SV.c (Value.int IntKind.u32 h.win), SV.a (3 : Nat), SV.a (4 : Nat)]) ∧
  True) ∧ some (R.blk (63 : Nat) [SV.a (10 : Nat)]) = some (R.blk (63 : Nat) [SV.a (10 : Nat)]) ∧ some (R.own (3 : Nat) (D.ints IntKind.i64 (ac2 q h g_1))) = some (R.own (3 : Nat) (D.ints IntKind.i64 (ac2 q h g_1))) ∧
  some R.dead = some R.dead ∧ some (R.blk (166 : Nat) [SV.c (Value.int IntKind.u32 q.next), SV.a (0 : Nat), SV.a (9 : Nat)]) = some (R.blk (166 : Nat) [SV.c (Value.int IntKind.u32 q.next), SV.a (0 : Nat), SV.a (9 : Nat)]) ∧
  some R.dead = some R.dead ∧ some R.dead = some R.dead ∧ some (R.blk (35 : Nat) [SV.c (Value.int IntKind.u32 h.cum), SV.c (Value.int IntKind.u32 h.win), SV.a (3 : Nat), SV.a (4 : Nat)]) = some (R.blk (35 : Nat) [SV.c (Value.int IntKind.u32 h.cum), SV.c (Value.int IntKind.u32 h.win), SV.a (3 : Nat), SV.a (4 : Nat)]) ∧
  some (R.ro (D.ints IntKind.u32 h.dups)) = some (R.ro (D.ints IntKind.u32 h.dups)) ∧ some (R.ro (D.recs (2 : Nat) h.gaps.length (gapCell h.gaps))) = some (R.ro (D.recs (2 : Nat) h.gaps.length (gapCell h.gaps))) ∧
  some (R.own (86 : Nat) (D.recs (7 : Nat) q.wait.length (pieCell q.wait))) = some (R.own (86 : Nat) (D.recs (7 : Nat) q.wait.length (pieCell q.wait))) ∧
  True) ((List.drop (IntKind.i64.wrap (IntKind.u32.wrap (h.cum - y_1))).toNat bs)[(↑g_2 : Int).toNat]? = some b ∧ True ∧ (List.drop (IntKind.i64.wrap (IntKind.u32.wrap (h.cum - y_1))).toNat bs)[(↑g_2 : Int).toNat]? = some b ∧
  (List.drop (IntKind.i64.wrap (IntKind.u32.wrap (h.cum - y_1))).toNat bs)[(↑g_2 : Int).toNat]? = some b ∧ True ∧ sw (decide ((bif (↑g_2 : Int).toNat.beq (↑g_2 : Int).toNat then IntKind.i64.wrap (((mapTo (fun (_x : Nat) => missI) (out2 q h) g_2).getD (↑g_2 : Int).toNat noIt).missed + (1 : Int)) else ((mapTo (fun (_x : Nat) => missI) (out2 q h) g_2).getD (↑g_2 : Int).toNat noIt).missed) = (3 : Int))) ((List.drop (IntKind.i64.wrap (IntKind.u32.wrap (h.cum - y_1))).toNat bs)[(↑g_2 : Int).toNat]? = some b ∧
  (List.drop (IntKind.i64.wrap (IntKind.u32.wrap (h.cum - y_1))).toNat bs)[(↑g_2 : Int).toNat]? = some b ∧ (List.drop (IntKind.i64.wrap (IntKind.u32.wrap (h.cum - y_1))).toNat bs)[(↑g_2 : Int).toNat]? = some b ∧
  (∃ (l : List Int), ∃ (x : Int), [O.d (D.ints IntKind.i64 (fast3 q h g_2)), O.d (D.v (Value.int IntKind.i64 ((mapTo (fun (_x : Nat) => missI) (out2 q h) g_2).getD (↑g_2 : Int).toNat noIt).path))] = [O.d (D.ints IntKind.i64 l), O.d (D.v (Value.int IntKind.i64 x))] ∧
  l.length ≤ (256 : Nat)) ∧ sw (!decide (((mapTo (fun (_x : Nat) => missI) (out2 q h) g_2).getD (↑g_2 : Int).toNat noIt).path ∈ fast3 q h g_2)) ((List.drop (IntKind.i64.wrap (IntKind.u32.wrap (h.cum - y_1))).toNat bs)[(↑g_2 : Int).toNat]? = some b ∧
  True ∧ ((fast3 q h g_2).length + [((mapTo (fun (_x : Nat) => missI) (out2 q h) g_2).getD (↑g_2 : Int).toNat noIt).path].length) * Try.prog.types[(3 : Nat)].bytes ≤ (140737488355328 : Nat) ∧
  True ∧ ∃ (g' : Nat), g' ≤ last2 q h ∧ last2 q h - g' < last2 q h - g_2 ∧ (IntKind.i64.wrap ((↑g_2 : Int) + (1 : Int)) = (↑g' : Int) ∧ fast3 q h g_2 ++ [((mapTo (fun (_x : Nat) => missI) (out2 q h) g_2).getD (↑g_2 : Int).toNat noIt).path] = fast3 q h g' ∧
  (List.drop (IntKind.i64.wrap (IntKind.u32.wrap (h.cum - y_1))).toNat bs = List.drop (IntKind.i64.wrap (IntKind.u32.wrap (h.cum - y_1))).toNat bs ∧ q.out.length - (IntKind.i64.wrap (IntKind.u32.wrap (h.cum - y_1))).toNat = q.out.length - (IntKind.i64.wrap (IntKind.u32.wrap (h.cum - y_1))).toNat ∧
  ∀ (i : Nat), i < q.out.length - (IntKind.i64.wrap (IntKind.u32.wrap (h.cum - y_1))).toNat → ∀ (j : Nat), j < (11 : Nat) → setRecM (setRecM (setRecM (itCell (mapTo (fun (_x : Nat) => missI) (out2 q h) g_2)) (↑g_2 : Int).toNat (8 : Nat) [D.v (Value.int IntKind.i64 (IntKind.i64.wrap (((mapTo (fun (_x : Nat) => missI) (out2 q h) g_2).getD (↑g_2 : Int).toNat noIt).missed + (1 : Int))))]) (↑g_2 : Int).toNat (8 : Nat) [D.v (Value.int IntKind.i64 (0 : Int))]) (↑g_2 : Int).toNat (10 : Nat) [D.v (Value.bool true)] i j = itCell (mapTo (fun (_x : Nat) => missI) (out2 q h) g') i j) ∧
  (!(Nat.beq (9 : Nat) (13 : Nat) || false) && (!false && true) && true && ((Nat.ble (11 : Nat) (13 : Nat) || (Nat.beq (9 : Nat) (13 : Nat) || false)) && ((Nat.ble (11 : Nat) (9 : Nat) || (Nat.beq (9 : Nat) (9 : Nat) || false)) && true))) = true) ∧
  (some (SV.c (Value.int IntKind.i64 (↑(IntKind.i64.wrap (lastG h.gaps g_1 + (1 : Int))).toNat : Int))) = some (SV.c (Value.int IntKind.i64 (↑(IntKind.i64.wrap (lastG h.gaps g_1 + (1 : Int))).toNat : Int))) ∧
  some (SV.hv (9 : Nat) (IntKind.i64.wrap (lastG h.gaps g_1 + (1 : Int))).toNat) = some (SV.hv (9 : Nat) (IntKind.i64.wrap (lastG h.gaps g_1 + (1 : Int))).toNat) ∧
  some (SV.c (Value.int IntKind.i64 (IntKind.i64.wrap (lastG h.gaps g_1 + (1 : Int))))) = some (SV.c (Value.int IntKind.i64 (IntKind.i64.wrap (lastG h.gaps g_1 + (1 : Int))))) ∧
  some (SV.c (Value.int IntKind.i64 (lastG h.gaps g_1))) = some (SV.c (Value.int IntKind.i64 (lastG h.gaps g_1))) ∧ some (SV.a (9 : Nat)) = some (SV.a (9 : Nat)) ∧
  some (SV.p (2 : Nat) (2 : Nat)) = some (SV.p (2 : Nat) (2 : Nat)) ∧ some (SV.p (2 : Nat) (0 : Nat)) = some (SV.p (2 : Nat) (0 : Nat)) ∧ some (SV.p (2 : Nat) (0 : Nat)) = some (SV.p (2 : Nat) (0 : Nat)) ∧
  some (SV.c (Value.bool (decide ((↑g_1 : Int) < (↑(q.out.length - (IntKind.i64.wrap (IntKind.u32.wrap (h.cum - y_1))).toNat) : Int))))) = some (SV.c (Value.bool (decide ((↑g_1 : Int) < (↑(q.out.length - (IntKind.i64.wrap (IntKind.u32.wrap (h.cum - y_1))).toNat) : Int))))) ∧
  some (SV.c (Value.int IntKind.i64 (↑g_1 : Int))) = some (SV.c (Value.int IntKind.i64 (↑g_1 : Int))) ∧ some (SV.c (Value.int IntKind.i64 (lastG h.gaps g_1))) = some (SV.c (Value.int IntKind.i64 (lastG h.gaps g_1))) ∧
  some (SV.c (Value.int IntKind.i64 (↑(q.out.length - (IntKind.i64.wrap (IntKind.u32.wrap (h.cum - y_1))).toNat) : Int))) = some (SV.c (Value.int IntKind.i64 (↑(q.out.length - (IntKind.i64.wrap (IntKind.u32.wrap (h.cum - y_1))).toNat) : Int))) ∧
  some (SV.a (9 : Nat)) = some (SV.a (9 : Nat)) ∧ some (SV.p (2 : Nat) (2 : Nat)) = some (SV.p (2 : Nat) (2 : Nat)) ∧ some (SV.p (2 : Nat) (0 : Nat)) = some (SV.p (2 : Nat) (0 : Nat)) ∧
  some (SV.p (2 : Nat) (0 : Nat)) = some (SV.p (2 : Nat) (0 : Nat)) ∧ some (SV.p (2 : Nat) (2 : Nat)) = some (SV.p (2 : Nat) (2 : Nat)) ∧ some (SV.p (2 : Nat) (0 : Nat)) = some (SV.p (2 : Nat) (0 : Nat)) ∧
  some (SV.a (9 : Nat)) = some (SV.a (9 : Nat)) ∧ some (SV.c (Value.int IntKind.i64 (IntKind.i64.wrap (IntKind.u32.wrap (h.cum - y_1))))) = some (SV.c (Value.int IntKind.i64 (IntKind.i64.wrap (IntKind.u32.wrap (h.cum - y_1))))) ∧
  some (SV.a (1 : Nat)) = some (SV.a (1 : Nat)) ∧ some (SV.p (2 : Nat) (2 : Nat)) = some (SV.p (2 : Nat) (2 : Nat)) ∧ some (SV.p (2 : Nat) (0 : Nat)) = some (SV.p (2 : Nat) (0 : Nat)) ∧
  some (SV.p (2 : Nat) (0 : Nat)) = some (SV.p (2 : Nat) (0 : Nat)) ∧ some (SV.p (2 : Nat) (0 : Nat)) = some (SV.p (2 : Nat) (0 : Nat)) ∧ some (SV.c (Value.bool (decide ((↑g : Int) < (↑(IntKind.i64.wrap (IntKind.u32.wrap (h.cum - y_1))).toNat : Int))))) = some (SV.c (Value.bool (decide ((↑g : Int) < (↑(IntKind.i64.wrap (IntKind.u32.wrap (h.cum - y_1))).toNat : Int))))) ∧
  some (SV.c (Value.int IntKind.i64 (↑g : Int))) = some (SV.c (Value.int IntKind.i64 (↑g : Int))) ∧ some (SV.c (Value.int IntKind.i64 (↑(IntKind.i64.wrap (IntKind.u32.wrap (h.cum - y_1))).toNat : Int))) = some (SV.c (Value.int IntKind.i64 (↑(IntKind.i64.wrap (IntKind.u32.wrap (h.cum - y_1))).toNat : Int))) ∧
  some (SV.hv (1 : Nat) (IntKind.i64.wrap (IntKind.u32.wrap (h.cum - y_1))).toNat) = some (SV.hv (1 : Nat) (IntKind.i64.wrap (IntKind.u32.wrap (h.cum - y_1))).toNat) ∧
  some (SV.c (Value.int IntKind.i64 (IntKind.i64.wrap (IntKind.u32.wrap (h.cum - y_1))))) = some (SV.c (Value.int IntKind.i64 (IntKind.i64.wrap (IntKind.u32.wrap (h.cum - y_1))))) ∧
  some (SV.a (1 : Nat)) = some (SV.a (1 : Nat)) ∧ some (SV.p (2 : Nat) (2 : Nat)) = some (SV.p (2 : Nat) (2 : Nat)) ∧ some (SV.p (2 : Nat) (0 : Nat)) = some (SV.p (2 : Nat) (0 : Nat)) ∧
  some (SV.p (2 : Nat) (0 : Nat)) = some (SV.p (2 : Nat) (0 : Nat)) ∧ some (SV.c (Value.int IntKind.i64 (IntKind.i64.wrap (IntKind.u32.wrap (h.cum - y_1))))) = some (SV.c (Value.int IntKind.i64 (IntKind.i64.wrap (IntKind.u32.wrap (h.cum - y_1))))) ∧
  some (SV.c (Value.int IntKind.i64 (IntKind.i64.wrap (IntKind.u32.wrap (h.cum - y_1))))) = some (SV.c (Value.int IntKind.i64 (IntKind.i64.wrap (IntKind.u32.wrap (h.cum - y_1))))) ∧
  some (SV.c (Value.int IntKind.u32 (IntKind.u32.wrap (h.cum - y_1)))) = some (SV.c (Value.int IntKind.u32 (IntKind.u32.wrap (h.cum - y_1)))) ∧ some (SV.c (Value.int IntKind.u32 y_1)) = some (SV.c (Value.int IntKind.u32 y_1)) ∧
  some (SV.c (Value.int IntKind.u32 h.cum)) = some (SV.c (Value.int IntKind.u32 h.cum)) ∧ some (SV.p (5 : Nat) (0 : Nat)) = some (SV.p (5 : Nat) (0 : Nat)) ∧
  some (SV.f (87 : Nat) (0 : Nat) [SV.p (6 : Nat) (0 : Nat)]) = some (SV.f (87 : Nat) (0 : Nat) [SV.p (6 : Nat) (0 : Nat)]) ∧ some (SV.f (87 : Nat) (0 : Nat) [SV.p (6 : Nat) (0 : Nat)]) = some (SV.f (87 : Nat) (0 : Nat) [SV.p (6 : Nat) (0 : Nat)]) ∧
  some (SV.a (7 : Nat)) = some (SV.a (7 : Nat)) ∧ some (SV.c (Value.bool !decide (IntKind.u32.wrap (h.cum - y_1) ≤ IntKind.u32.wrap (IntKind.u32.wrap (y_1 + IntKind.u32.wrap (↑q.out.length : Int)) - y_1)))) = some (SV.c (Value.bool !decide (IntKind.u32.wrap (h.cum - y_1) ≤ IntKind.u32.wrap (IntKind.u32.wrap (y_1 + IntKind.u32.wrap (↑q.out.length : Int)) - y_1)))) ∧
  some (SV.c (Value.bool (decide (IntKind.u32.wrap (h.cum - y_1) ≤ IntKind.u32.wrap (IntKind.u32.wrap (y_1 + IntKind.u32.wrap (↑q.out.length : Int)) - y_1))))) = some (SV.c (Value.bool (decide (IntKind.u32.wrap (h.cum - y_1) ≤ IntKind.u32.wrap (IntKind.u32.wrap (y_1 + IntKind.u32.wrap (↑q.out.length : Int)) - y_1))))) ∧
  some (SV.c (Value.int IntKind.u32 h.cum)) = some (SV.c (Value.int IntKind.u32 h.cum)) ∧ some (SV.p (5 : Nat) (0 : Nat)) = some (SV.p (5 : Nat) (0 : Nat)) ∧
  some (SV.c (Value.int IntKind.u32 (IntKind.u32.wrap (y_1 + IntKind.u32.wrap (↑q.out.length : Int))))) = some (SV.c (Value.int IntKind.u32 (IntKind.u32.wrap (y_1 + IntKind.u32.wrap (↑q.out.length : Int))))) ∧
  some (SV.c (Value.int IntKind.u32 (IntKind.u32.wrap (↑q.out.length : Int)))) = some (SV.c (Value.int IntKind.u32 (IntKind.u32.wrap (↑q.out.length : Int)))) ∧
  some (SV.c (Value.int IntKind.i64 (↑q.out.length : Int))) = some (SV.c (Value.int IntKind.i64 (↑q.out.length : Int))) ∧ some (SV.a (1 : Nat)) = some (SV.a (1 : Nat)) ∧
  some (SV.p (2 : Nat) (2 : Nat)) = some (SV.p (2 : Nat) (2 : Nat)) ∧ some (SV.p (2 : Nat) (0 : Nat)) = some (SV.p (2 : Nat) (0 : Nat)) ∧ some (SV.p (2 : Nat) (0 : Nat)) = some (SV.p (2 : Nat) (0 : Nat)) ∧
  some (SV.c (Value.int IntKind.u32 y_1)) = some (SV.c (Value.int IntKind.u32 y_1)) ∧ some (SV.c (Value.int IntKind.u32 y_1)) = some (SV.c (Value.int IntKind.u32 y_1)) ∧
  some (SV.c (Value.int IntKind.u32 y_1)) = some (SV.c (Value.int IntKind.u32 y_1)) ∧ some (SV.c (Value.int IntKind.u32 y_1)) = some (SV.c (Value.int IntKind.u32 y_1)) ∧
  some (SV.p (2 : Nat) (0 : Nat)) = some (SV.p (2 : Nat) (0 : Nat)) ∧ some (SV.c (Value.bool !apartF (gapsOf (D.recs (2 : Nat) h.gaps.length (gapCell h.gaps))))) = some (SV.c (Value.bool !apartF (gapsOf (D.recs (2 : Nat) h.gaps.length (gapCell h.gaps))))) ∧
  some (SV.c (Value.bool (apartF (gapsOf (D.recs (2 : Nat) h.gaps.length (gapCell h.gaps)))))) = some (SV.c (Value.bool (apartF (gapsOf (D.recs (2 : Nat) h.gaps.length (gapCell h.gaps)))))) ∧
  some (SV.a (3 : Nat)) = some (SV.a (3 : Nat)) ∧ some (SV.p (5 : Nat) (2 : Nat)) = some (SV.p (5 : Nat) (2 : Nat)) ∧ some (SV.b false) = some (SV.b false) ∧
  some (SV.p (2 : Nat) (0 : Nat)) = some (SV.p (2 : Nat) (0 : Nat)) ∧ some (SV.c (Value.int IntKind.i64 (0 : Int))) = some (SV.c (Value.int IntKind.i64 (0 : Int))) ∧
  some (SV.p (6 : Nat) (0 : Nat)) = some (SV.p (6 : Nat) (0 : Nat)) ∧ some (SV.p (5 : Nat) (0 : Nat)) = some (SV.p (5 : Nat) (0 : Nat)) ∧ some (SV.p (2 : Nat) (0 : Nat)) = some (SV.p (2 : Nat) (0 : Nat)) ∧
  some (SV.agg [SV.c (Value.int IntKind.u32 h.cum), SV.c (Value.int IntKind.u32 h.win), SV.a (3 : Nat), SV.a (4 : Nat)]) = some (SV.agg [SV.c (Value.int IntKind.u32 h.cum), SV.c (Value.int IntKind.u32 h.win), SV.a (3 : Nat), SV.a (4 : Nat)]) ∧
  True) ∧ some (R.blk (63 : Nat) [SV.a (10 : Nat)]) = some (R.blk (63 : Nat) [SV.a (10 : Nat)]) ∧ some (R.own (3 : Nat) (D.ints IntKind.i64 (ac2 q h g_1))) = some (R.own (3 : Nat) (D.ints IntKind.i64 (ac2 q h g_1))) ∧
  some R.dead = some R.dead ∧ some (R.blk (166 : Nat) [SV.c (Value.int IntKind.u32 q.next), SV.a (0 : Nat), SV.a (9 : Nat)]) = some (R.blk (166 : Nat) [SV.c (Value.int IntKind.u32 q.next), SV.a (0 : Nat), SV.a (9 : Nat)]) ∧
  some R.dead = some R.dead ∧ some R.dead = some R.dead ∧ some (R.blk (35 : Nat) [SV.c (Value.int IntKind.u32 h.cum), SV.c (Value.int IntKind.u32 h.win), SV.a (3 : Nat), SV.a (4 : Nat)]) = some (R.blk (35 : Nat) [SV.c (Value.int IntKind.u32 h.cum), SV.c (Value.int IntKind.u32 h.win), SV.a (3 : Nat), SV.a (4 : Nat)]) ∧
  some (R.ro (D.ints IntKind.u32 h.dups)) = some (R.ro (D.ints IntKind.u32 h.dups)) ∧ some (R.ro (D.recs (2 : Nat) h.gaps.length (gapCell h.gaps))) = some (R.ro (D.recs (2 : Nat) h.gaps.length (gapCell h.gaps))) ∧
  some (R.own (86 : Nat) (D.recs (7 : Nat) q.wait.length (pieCell q.wait))) = some (R.own (86 : Nat) (D.recs (7 : Nat) q.wait.length (pieCell q.wait))) ∧
  True) (True ∧ ∃ (g' : Nat), g' ≤ last2 q h ∧ last2 q h - g' < last2 q h - g_2 ∧ (IntKind.i64.wrap ((↑g_2 : Int) + (1 : Int)) = (↑g' : Int) ∧ fast3 q h g_2 = fast3 q h g' ∧
  (List.drop (IntKind.i64.wrap (IntKind.u32.wrap (h.cum - y_1))).toNat bs = List.drop (IntKind.i64.wrap (IntKind.u32.wrap (h.cum - y_1))).toNat bs ∧ q.out.length - (IntKind.i64.wrap (IntKind.u32.wrap (h.cum - y_1))).toNat = q.out.length - (IntKind.i64.wrap (IntKind.u32.wrap (h.cum - y_1))).toNat ∧
  ∀ (i : Nat), i < q.out.length - (IntKind.i64.wrap (IntKind.u32.wrap (h.cum - y_1))).toNat → ∀ (j : Nat), j < (11 : Nat) → setRecM (setRecM (setRecM (itCell (mapTo (fun (_x : Nat) => missI) (out2 q h) g_2)) (↑g_2 : Int).toNat (8 : Nat) [D.v (Value.int IntKind.i64 (IntKind.i64.wrap (((mapTo (fun (_x : Nat) => missI) (out2 q h) g_2).getD (↑g_2 : Int).toNat noIt).missed + (1 : Int))))]) (↑g_2 : Int).toNat (8 : Nat) [D.v (Value.int IntKind.i64 (0 : Int))]) (↑g_2 : Int).toNat (10 : Nat) [D.v (Value.bool true)] i j = itCell (mapTo (fun (_x : Nat) => missI) (out2 q h) g') i j) ∧
  (!(Nat.beq (9 : Nat) (11 : Nat) || false) && (!false && true) && true && ((Nat.ble (11 : Nat) (11 : Nat) || (Nat.beq (9 : Nat) (11 : Nat) || false)) && ((Nat.ble (11 : Nat) (9 : Nat) || (Nat.beq (9 : Nat) (9 : Nat) || false)) && true))) = true) ∧
  (some (SV.c (Value.int IntKind.i64 (↑(IntKind.i64.wrap (lastG h.gaps g_1 + (1 : Int))).toNat : Int))) = some (SV.c (Value.int IntKind.i64 (↑(IntKind.i64.wrap (lastG h.gaps g_1 + (1 : Int))).toNat : Int))) ∧
  some (SV.hv (9 : Nat) (IntKind.i64.wrap (lastG h.gaps g_1 + (1 : Int))).toNat) = some (SV.hv (9 : Nat) (IntKind.i64.wrap (lastG h.gaps g_1 + (1 : Int))).toNat) ∧
  some (SV.c (Value.int IntKind.i64 (IntKind.i64.wrap (lastG h.gaps g_1 + (1 : Int))))) = some (SV.c (Value.int IntKind.i64 (IntKind.i64.wrap (lastG h.gaps g_1 + (1 : Int))))) ∧
  some (SV.c (Value.int IntKind.i64 (lastG h.gaps g_1))) = some (SV.c (Value.int IntKind.i64 (lastG h.gaps g_1))) ∧ some (SV.a (9 : Nat)) = some (SV.a (9 : Nat)) ∧
  some (SV.p (2 : Nat) (2 : Nat)) = some (SV.p (2 : Nat) (2 : Nat)) ∧ some (SV.p (2 : Nat) (0 : Nat)) = some (SV.p (2 : Nat) (0 : Nat)) ∧ some (SV.p (2 : Nat) (0 : Nat)) = some (SV.p (2 : Nat) (0 : Nat)) ∧
  some (SV.c (Value.bool (decide ((↑g_1 : Int) < (↑(q.out.length - (IntKind.i64.wrap (IntKind.u32.wrap (h.cum - y_1))).toNat) : Int))))) = some (SV.c (Value.bool (decide ((↑g_1 : Int) < (↑(q.out.length - (IntKind.i64.wrap (IntKind.u32.wrap (h.cum - y_1))).toNat) : Int))))) ∧
  some (SV.c (Value.int IntKind.i64 (↑g_1 : Int))) = some (SV.c (Value.int IntKind.i64 (↑g_1 : Int))) ∧ some (SV.c (Value.int IntKind.i64 (lastG h.gaps g_1))) = some (SV.c (Value.int IntKind.i64 (lastG h.gaps g_1))) ∧
  some (SV.c (Value.int IntKind.i64 (↑(q.out.length - (IntKind.i64.wrap (IntKind.u32.wrap (h.cum - y_1))).toNat) : Int))) = some (SV.c (Value.int IntKind.i64 (↑(q.out.length - (IntKind.i64.wrap (IntKind.u32.wrap (h.cum - y_1))).toNat) : Int))) ∧
  some (SV.a (9 : Nat)) = some (SV.a (9 : Nat)) ∧ some (SV.p (2 : Nat) (2 : Nat)) = some (SV.p (2 : Nat) (2 : Nat)) ∧ some (SV.p (2 : Nat) (0 : Nat)) = some (SV.p (2 : Nat) (0 : Nat)) ∧
  some (SV.p (2 : Nat) (0 : Nat)) = some (SV.p (2 : Nat) (0 : Nat)) ∧ some (SV.p (2 : Nat) (2 : Nat)) = some (SV.p (2 : Nat) (2 : Nat)) ∧ some (SV.p (2 : Nat) (0 : Nat)) = some (SV.p (2 : Nat) (0 : Nat)) ∧
  some (SV.a (9 : Nat)) = some (SV.a (9 : Nat)) ∧ some (SV.c (Value.int IntKind.i64 (IntKind.i64.wrap (IntKind.u32.wrap (h.cum - y_1))))) = some (SV.c (Value.int IntKind.i64 (IntKind.i64.wrap (IntKind.u32.wrap (h.cum - y_1))))) ∧
  some (SV.a (1 : Nat)) = some (SV.a (1 : Nat)) ∧ some (SV.p (2 : Nat) (2 : Nat)) = some (SV.p (2 : Nat) (2 : Nat)) ∧ some (SV.p (2 : Nat) (0 : Nat)) = some (SV.p (2 : Nat) (0 : Nat)) ∧
  some (SV.p (2 : Nat) (0 : Nat)) = some (SV.p (2 : Nat) (0 : Nat)) ∧ some (SV.p (2 : Nat) (0 : Nat)) = some (SV.p (2 : Nat) (0 : Nat)) ∧ some (SV.c (Value.bool (decide ((↑g : Int) < (↑(IntKind.i64.wrap (IntKind.u32.wrap (h.cum - y_1))).toNat : Int))))) = some (SV.c (Value.bool (decide ((↑g : Int) < (↑(IntKind.i64.wrap (IntKind.u32.wrap (h.cum - y_1))).toNat : Int))))) ∧
  some (SV.c (Value.int IntKind.i64 (↑g : Int))) = some (SV.c (Value.int IntKind.i64 (↑g : Int))) ∧ some (SV.c (Value.int IntKind.i64 (↑(IntKind.i64.wrap (IntKind.u32.wrap (h.cum - y_1))).toNat : Int))) = some (SV.c (Value.int IntKind.i64 (↑(IntKind.i64.wrap (IntKind.u32.wrap (h.cum - y_1))).toNat : Int))) ∧
  some (SV.hv (1 : Nat) (IntKind.i64.wrap (IntKind.u32.wrap (h.cum - y_1))).toNat) = some (SV.hv (1 : Nat) (IntKind.i64.wrap (IntKind.u32.wrap (h.cum - y_1))).toNat) ∧
  some (SV.c (Value.int IntKind.i64 (IntKind.i64.wrap (IntKind.u32.wrap (h.cum - y_1))))) = some (SV.c (Value.int IntKind.i64 (IntKind.i64.wrap (IntKind.u32.wrap (h.cum - y_1))))) ∧
  some (SV.a (1 : Nat)) = some (SV.a (1 : Nat)) ∧ some (SV.p (2 : Nat) (2 : Nat)) = some (SV.p (2 : Nat) (2 : Nat)) ∧ some (SV.p (2 : Nat) (0 : Nat)) = some (SV.p (2 : Nat) (0 : Nat)) ∧
  some (SV.p (2 : Nat) (0 : Nat)) = some (SV.p (2 : Nat) (0 : Nat)) ∧ some (SV.c (Value.int IntKind.i64 (IntKind.i64.wrap (IntKind.u32.wrap (h.cum - y_1))))) = some (SV.c (Value.int IntKind.i64 (IntKind.i64.wrap (IntKind.u32.wrap (h.cum - y_1))))) ∧
  some (SV.c (Value.int IntKind.i64 (IntKind.i64.wrap (IntKind.u32.wrap (h.cum - y_1))))) = some (SV.c (Value.int IntKind.i64 (IntKind.i64.wrap (IntKind.u32.wrap (h.cum - y_1))))) ∧
  some (SV.c (Value.int IntKind.u32 (IntKind.u32.wrap (h.cum - y_1)))) = some (SV.c (Value.int IntKind.u32 (IntKind.u32.wrap (h.cum - y_1)))) ∧ some (SV.c (Value.int IntKind.u32 y_1)) = some (SV.c (Value.int IntKind.u32 y_1)) ∧
  some (SV.c (Value.int IntKind.u32 h.cum)) = some (SV.c (Value.int IntKind.u32 h.cum)) ∧ some (SV.p (5 : Nat) (0 : Nat)) = some (SV.p (5 : Nat) (0 : Nat)) ∧
  some (SV.f (87 : Nat) (0 : Nat) [SV.p (6 : Nat) (0 : Nat)]) = some (SV.f (87 : Nat) (0 : Nat) [SV.p (6 : Nat) (0 : Nat)]) ∧ some (SV.f (87 : Nat) (0 : Nat) [SV.p (6 : Nat) (0 : Nat)]) = some (SV.f (87 : Nat) (0 : Nat) [SV.p (6 : Nat) (0 : Nat)]) ∧
  some (SV.a (7 : Nat)) = some (SV.a (7 : Nat)) ∧ some (SV.c (Value.bool !decide (IntKind.u32.wrap (h.cum - y_1) ≤ IntKind.u32.wrap (IntKind.u32.wrap (y_1 + IntKind.u32.wrap (↑q.out.length : Int)) - y_1)))) = some (SV.c (Value.bool !decide (IntKind.u32.wrap (h.cum - y_1) ≤ IntKind.u32.wrap (IntKind.u32.wrap (y_1 + IntKind.u32.wrap (↑q.out.length : Int)) - y_1)))) ∧
  some (SV.c (Value.bool (decide (IntKind.u32.wrap (h.cum - y_1) ≤ IntKind.u32.wrap (IntKind.u32.wrap (y_1 + IntKind.u32.wrap (↑q.out.length : Int)) - y_1))))) = some (SV.c (Value.bool (decide (IntKind.u32.wrap (h.cum - y_1) ≤ IntKind.u32.wrap (IntKind.u32.wrap (y_1 + IntKind.u32.wrap (↑q.out.length : Int)) - y_1))))) ∧
  some (SV.c (Value.int IntKind.u32 h.cum)) = some (SV.c (Value.int IntKind.u32 h.cum)) ∧ some (SV.p (5 : Nat) (0 : Nat)) = some (SV.p (5 : Nat) (0 : Nat)) ∧
  some (SV.c (Value.int IntKind.u32 (IntKind.u32.wrap (y_1 + IntKind.u32.wrap (↑q.out.length : Int))))) = some (SV.c (Value.int IntKind.u32 (IntKind.u32.wrap (y_1 + IntKind.u32.wrap (↑q.out.length : Int))))) ∧
  some (SV.c (Value.int IntKind.u32 (IntKind.u32.wrap (↑q.out.length : Int)))) = some (SV.c (Value.int IntKind.u32 (IntKind.u32.wrap (↑q.out.length : Int)))) ∧
  some (SV.c (Value.int IntKind.i64 (↑q.out.length : Int))) = some (SV.c (Value.int IntKind.i64 (↑q.out.length : Int))) ∧ some (SV.a (1 : Nat)) = some (SV.a (1 : Nat)) ∧
  some (SV.p (2 : Nat) (2 : Nat)) = some (SV.p (2 : Nat) (2 : Nat)) ∧ some (SV.p (2 : Nat) (0 : Nat)) = some (SV.p (2 : Nat) (0 : Nat)) ∧ some (SV.p (2 : Nat) (0 : Nat)) = some (SV.p (2 : Nat) (0 : Nat)) ∧
  some (SV.c (Value.int IntKind.u32 y_1)) = some (SV.c (Value.int IntKind.u32 y_1)) ∧ some (SV.c (Value.int IntKind.u32 y_1)) = some (SV.c (Value.int IntKind.u32 y_1)) ∧
  some (SV.c (Value.int IntKind.u32 y_1)) = some (SV.c (Value.int IntKind.u32 y_1)) ∧ some (SV.c (Value.int IntKind.u32 y_1)) = some (SV.c (Value.int IntKind.u32 y_1)) ∧
  some (SV.p (2 : Nat) (0 : Nat)) = some (SV.p (2 : Nat) (0 : Nat)) ∧ some (SV.c (Value.bool !apartF (gapsOf (D.recs (2 : Nat) h.gaps.length (gapCell h.gaps))))) = some (SV.c (Value.bool !apartF (gapsOf (D.recs (2 : Nat) h.gaps.length (gapCell h.gaps))))) ∧
  some (SV.c (Value.bool (apartF (gapsOf (D.recs (2 : Nat) h.gaps.length (gapCell h.gaps)))))) = some (SV.c (Value.bool (apartF (gapsOf (D.recs (2 : Nat) h.gaps.length (gapCell h.gaps)))))) ∧
  some (SV.a (3 : Nat)) = some (SV.a (3 : Nat)) ∧ some (SV.p (5 : Nat) (2 : Nat)) = some (SV.p (5 : Nat) (2 : Nat)) ∧ some (SV.b false) = some (SV.b false) ∧
  some (SV.p (2 : Nat) (0 : Nat)) = some (SV.p (2 : Nat) (0 : Nat)) ∧ some (SV.c (Value.int IntKind.i64 (0 : Int))) = some (SV.c (Value.int IntKind.i64 (0 : Int))) ∧
  some (SV.p (6 : Nat) (0 : Nat)) = some (SV.p (6 : Nat) (0 : Nat)) ∧ some (SV.p (5 : Nat) (0 : Nat)) = some (SV.p (5 : Nat) (0 : Nat)) ∧ some (SV.p (2 : Nat) (0 : Nat)) = some (SV.p (2 : Nat) (0 : Nat)) ∧
  some (SV.agg [SV.c (Value.int IntKind.u32 h.cum), SV.c (Value.int IntKind.u32 h.win), SV.a (3 : Nat), SV.a (4 : Nat)]) = some (SV.agg [SV.c (Value.int IntKind.u32 h.cum), SV.c (Value.int IntKind.u32 h.win), SV.a (3 : Nat), SV.a (4 : Nat)]) ∧
  True) ∧ some (R.blk (63 : Nat) [SV.a (10 : Nat)]) = some (R.blk (63 : Nat) [SV.a (10 : Nat)]) ∧ some (R.own (3 : Nat) (D.ints IntKind.i64 (ac2 q h g_1))) = some (R.own (3 : Nat) (D.ints IntKind.i64 (ac2 q h g_1))) ∧
  some R.dead = some R.dead ∧ some (R.blk (166 : Nat) [SV.c (Value.int IntKind.u32 q.next), SV.a (0 : Nat), SV.a (9 : Nat)]) = some (R.blk (166 : Nat) [SV.c (Value.int IntKind.u32 q.next), SV.a (0 : Nat), SV.a (9 : Nat)]) ∧
  some R.dead = some R.dead ∧ some R.dead = some R.dead ∧ some (R.blk (35 : Nat) [SV.c (Value.int IntKind.u32 h.cum), SV.c (Value.int IntKind.u32 h.win), SV.a (3 : Nat), SV.a (4 : Nat)]) = some (R.blk (35 : Nat) [SV.c (Value.int IntKind.u32 h.cum), SV.c (Value.int IntKind.u32 h.win), SV.a (3 : Nat), SV.a (4 : Nat)]) ∧
  some (R.ro (D.ints IntKind.u32 h.dups)) = some (R.ro (D.ints IntKind.u32 h.dups)) ∧ some (R.ro (D.recs (2 : Nat) h.gaps.length (gapCell h.gaps))) = some (R.ro (D.recs (2 : Nat) h.gaps.length (gapCell h.gaps))) ∧
  some (R.own (86 : Nat) (D.recs (7 : Nat) q.wait.length (pieCell q.wait))) = some (R.own (86 : Nat) (D.recs (7 : Nat) q.wait.length (pieCell q.wait))) ∧
  True)) (True ∧ ∃ (g' : Nat), g' ≤ last2 q h ∧ last2 q h - g' < last2 q h - g_2 ∧ (IntKind.i64.wrap ((↑g_2 : Int) + (1 : Int)) = (↑g' : Int) ∧ fast3 q h g_2 = fast3 q h g' ∧
  (List.drop (IntKind.i64.wrap (IntKind.u32.wrap (h.cum - y_1))).toNat bs = List.drop (IntKind.i64.wrap (IntKind.u32.wrap (h.cum - y_1))).toNat bs ∧ q.out.length - (IntKind.i64.wrap (IntKind.u32.wrap (h.cum - y_1))).toNat = q.out.length - (IntKind.i64.wrap (IntKind.u32.wrap (h.cum - y_1))).toNat ∧
  ∀ (i : Nat), i < q.out.length - (IntKind.i64.wrap (IntKind.u32.wrap (h.cum - y_1))).toNat → ∀ (j : Nat), j < (11 : Nat) → setRecM (itCell (mapTo (fun (_x : Nat) => missI) (out2 q h) g_2)) (↑g_2 : Int).toNat (8 : Nat) [D.v (Value.int IntKind.i64 (IntKind.i64.wrap (((mapTo (fun (_x : Nat) => missI) (out2 q h) g_2).getD (↑g_2 : Int).toNat noIt).missed + (1 : Int))))] i j = itCell (mapTo (fun (_x : Nat) => missI) (out2 q h) g') i j) ∧
  (!(Nat.beq (9 : Nat) (11 : Nat) || false) && (!false && true) && true && ((Nat.ble (11 : Nat) (11 : Nat) || (Nat.beq (9 : Nat) (11 : Nat) || false)) && ((Nat.ble (11 : Nat) (9 : Nat) || (Nat.beq (9 : Nat) (9 : Nat) || false)) && true))) = true) ∧
  (some (SV.c (Value.int IntKind.i64 (↑(IntKind.i64.wrap (lastG h.gaps g_1 + (1 : Int))).toNat : Int))) = some (SV.c (Value.int IntKind.i64 (↑(IntKind.i64.wrap (lastG h.gaps g_1 + (1 : Int))).toNat : Int))) ∧
  some (SV.hv (9 : Nat) (IntKind.i64.wrap (lastG h.gaps g_1 + (1 : Int))).toNat) = some (SV.hv (9 : Nat) (IntKind.i64.wrap (lastG h.gaps g_1 + (1 : Int))).toNat) ∧
  some (SV.c (Value.int IntKind.i64 (IntKind.i64.wrap (lastG h.gaps g_1 + (1 : Int))))) = some (SV.c (Value.int IntKind.i64 (IntKind.i64.wrap (lastG h.gaps g_1 + (1 : Int))))) ∧
  some (SV.c (Value.int IntKind.i64 (lastG h.gaps g_1))) = some (SV.c (Value.int IntKind.i64 (lastG h.gaps g_1))) ∧ some (SV.a (9 : Nat)) = some (SV.a (9 : Nat)) ∧
  some (SV.p (2 : Nat) (2 : Nat)) = some (SV.p (2 : Nat) (2 : Nat)) ∧ some (SV.p (2 : Nat) (0 : Nat)) = some (SV.p (2 : Nat) (0 : Nat)) ∧ some (SV.p (2 : Nat) (0 : Nat)) = some (SV.p (2 : Nat) (0 : Nat)) ∧
  some (SV.c (Value.bool (decide ((↑g_1 : Int) < (↑(q.out.length - (IntKind.i64.wrap (IntKind.u32.wrap (h.cum - y_1))).toNat) : Int))))) = some (SV.c (Value.bool (decide ((↑g_1 : Int) < (↑(q.out.length - (IntKind.i64.wrap (IntKind.u32.wrap (h.cum - y_1))).toNat) : Int))))) ∧
  some (SV.c (Value.int IntKind.i64 (↑g_1 : Int))) = some (SV.c (Value.int IntKind.i64 (↑g_1 : Int))) ∧ some (SV.c (Value.int IntKind.i64 (lastG h.gaps g_1))) = some (SV.c (Value.int IntKind.i64 (lastG h.gaps g_1))) ∧
  some (SV.c (Value.int IntKind.i64 (↑(q.out.length - (IntKind.i64.wrap (IntKind.u32.wrap (h.cum - y_1))).toNat) : Int))) = some (SV.c (Value.int IntKind.i64 (↑(q.out.length - (IntKind.i64.wrap (IntKind.u32.wrap (h.cum - y_1))).toNat) : Int))) ∧
  some (SV.a (9 : Nat)) = some (SV.a (9 : Nat)) ∧ some (SV.p (2 : Nat) (2 : Nat)) = some (SV.p (2 : Nat) (2 : Nat)) ∧ some (SV.p (2 : Nat) (0 : Nat)) = some (SV.p (2 : Nat) (0 : Nat)) ∧
  some (SV.p (2 : Nat) (0 : Nat)) = some (SV.p (2 : Nat) (0 : Nat)) ∧ some (SV.p (2 : Nat) (2 : Nat)) = some (SV.p (2 : Nat) (2 : Nat)) ∧ some (SV.p (2 : Nat) (0 : Nat)) = some (SV.p (2 : Nat) (0 : Nat)) ∧
  some (SV.a (9 : Nat)) = some (SV.a (9 : Nat)) ∧ some (SV.c (Value.int IntKind.i64 (IntKind.i64.wrap (IntKind.u32.wrap (h.cum - y_1))))) = some (SV.c (Value.int IntKind.i64 (IntKind.i64.wrap (IntKind.u32.wrap (h.cum - y_1))))) ∧
  some (SV.a (1 : Nat)) = some (SV.a (1 : Nat)) ∧ some (SV.p (2 : Nat) (2 : Nat)) = some (SV.p (2 : Nat) (2 : Nat)) ∧ some (SV.p (2 : Nat) (0 : Nat)) = some (SV.p (2 : Nat) (0 : Nat)) ∧
  some (SV.p (2 : Nat) (0 : Nat)) = some (SV.p (2 : Nat) (0 : Nat)) ∧ some (SV.p (2 : Nat) (0 : Nat)) = some (SV.p (2 : Nat) (0 : Nat)) ∧ some (SV.c (Value.bool (decide ((↑g : Int) < (↑(IntKind.i64.wrap (IntKind.u32.wrap (h.cum - y_1))).toNat : Int))))) = some (SV.c (Value.bool (decide ((↑g : Int) < (↑(IntKind.i64.wrap (IntKind.u32.wrap (h.cum - y_1))).toNat : Int))))) ∧
  some (SV.c (Value.int IntKind.i64 (↑g : Int))) = some (SV.c (Value.int IntKind.i64 (↑g : Int))) ∧ some (SV.c (Value.int IntKind.i64 (↑(IntKind.i64.wrap (IntKind.u32.wrap (h.cum - y_1))).toNat : Int))) = some (SV.c (Value.int IntKind.i64 (↑(IntKind.i64.wrap (IntKind.u32.wrap (h.cum - y_1))).toNat : Int))) ∧
  some (SV.hv (1 : Nat) (IntKind.i64.wrap (IntKind.u32.wrap (h.cum - y_1))).toNat) = some (SV.hv (1 : Nat) (IntKind.i64.wrap (IntKind.u32.wrap (h.cum - y_1))).toNat) ∧
  some (SV.c (Value.int IntKind.i64 (IntKind.i64.wrap (IntKind.u32.wrap (h.cum - y_1))))) = some (SV.c (Value.int IntKind.i64 (IntKind.i64.wrap (IntKind.u32.wrap (h.cum - y_1))))) ∧
  some (SV.a (1 : Nat)) = some (SV.a (1 : Nat)) ∧ some (SV.p (2 : Nat) (2 : Nat)) = some (SV.p (2 : Nat) (2 : Nat)) ∧ some (SV.p (2 : Nat) (0 : Nat)) = some (SV.p (2 : Nat) (0 : Nat)) ∧
  some (SV.p (2 : Nat) (0 : Nat)) = some (SV.p (2 : Nat) (0 : Nat)) ∧ some (SV.c (Value.int IntKind.i64 (IntKind.i64.wrap (IntKind.u32.wrap (h.cum - y_1))))) = some (SV.c (Value.int IntKind.i64 (IntKind.i64.wrap (IntKind.u32.wrap (h.cum - y_1))))) ∧
  some (SV.c (Value.int IntKind.i64 (IntKind.i64.wrap (IntKind.u32.wrap (h.cum - y_1))))) = some (SV.c (Value.int IntKind.i64 (IntKind.i64.wrap (IntKind.u32.wrap (h.cum - y_1))))) ∧
  some (SV.c (Value.int IntKind.u32 (IntKind.u32.wrap (h.cum - y_1)))) = some (SV.c (Value.int IntKind.u32 (IntKind.u32.wrap (h.cum - y_1)))) ∧ some (SV.c (Value.int IntKind.u32 y_1)) = some (SV.c (Value.int IntKind.u32 y_1)) ∧
  some (SV.c (Value.int IntKind.u32 h.cum)) = some (SV.c (Value.int IntKind.u32 h.cum)) ∧ some (SV.p (5 : Nat) (0 : Nat)) = some (SV.p (5 : Nat) (0 : Nat)) ∧
  some (SV.f (87 : Nat) (0 : Nat) [SV.p (6 : Nat) (0 : Nat)]) = some (SV.f (87 : Nat) (0 : Nat) [SV.p (6 : Nat) (0 : Nat)]) ∧ some (SV.f (87 : Nat) (0 : Nat) [SV.p (6 : Nat) (0 : Nat)]) = some (SV.f (87 : Nat) (0 : Nat) [SV.p (6 : Nat) (0 : Nat)]) ∧
  some (SV.a (7 : Nat)) = some (SV.a (7 : Nat)) ∧ some (SV.c (Value.bool !decide (IntKind.u32.wrap (h.cum - y_1) ≤ IntKind.u32.wrap (IntKind.u32.wrap (y_1 + IntKind.u32.wrap (↑q.out.length : Int)) - y_1)))) = some (SV.c (Value.bool !decide (IntKind.u32.wrap (h.cum - y_1) ≤ IntKind.u32.wrap (IntKind.u32.wrap (y_1 + IntKind.u32.wrap (↑q.out.length : Int)) - y_1)))) ∧
  some (SV.c (Value.bool (decide (IntKind.u32.wrap (h.cum - y_1) ≤ IntKind.u32.wrap (IntKind.u32.wrap (y_1 + IntKind.u32.wrap (↑q.out.length : Int)) - y_1))))) = some (SV.c (Value.bool (decide (IntKind.u32.wrap (h.cum - y_1) ≤ IntKind.u32.wrap (IntKind.u32.wrap (y_1 + IntKind.u32.wrap (↑q.out.length : Int)) - y_1))))) ∧
  some (SV.c (Value.int IntKind.u32 h.cum)) = some (SV.c (Value.int IntKind.u32 h.cum)) ∧ some (SV.p (5 : Nat) (0 : Nat)) = some (SV.p (5 : Nat) (0 : Nat)) ∧
  some (SV.c (Value.int IntKind.u32 (IntKind.u32.wrap (y_1 + IntKind.u32.wrap (↑q.out.length : Int))))) = some (SV.c (Value.int IntKind.u32 (IntKind.u32.wrap (y_1 + IntKind.u32.wrap (↑q.out.length : Int))))) ∧
  some (SV.c (Value.int IntKind.u32 (IntKind.u32.wrap (↑q.out.length : Int)))) = some (SV.c (Value.int IntKind.u32 (IntKind.u32.wrap (↑q.out.length : Int)))) ∧
  some (SV.c (Value.int IntKind.i64 (↑q.out.length : Int))) = some (SV.c (Value.int IntKind.i64 (↑q.out.length : Int))) ∧ some (SV.a (1 : Nat)) = some (SV.a (1 : Nat)) ∧
  some (SV.p (2 : Nat) (2 : Nat)) = some (SV.p (2 : Nat) (2 : Nat)) ∧ some (SV.p (2 : Nat) (0 : Nat)) = some (SV.p (2 : Nat) (0 : Nat)) ∧ some (SV.p (2 : Nat) (0 : Nat)) = some (SV.p (2 : Nat) (0 : Nat)) ∧
  some (SV.c (Value.int IntKind.u32 y_1)) = some (SV.c (Value.int IntKind.u32 y_1)) ∧ some (SV.c (Value.int IntKind.u32 y_1)) = some (SV.c (Value.int IntKind.u32 y_1)) ∧
  some (SV.c (Value.int IntKind.u32 y_1)) = some (SV.c (Value.int IntKind.u32 y_1)) ∧ some (SV.c (Value.int IntKind.u32 y_1)) = some (SV.c (Value.int IntKind.u32 y_1)) ∧
  some (SV.p (2 : Nat) (0 : Nat)) = some (SV.p (2 : Nat) (0 : Nat)) ∧ some (SV.c (Value.bool !apartF (gapsOf (D.recs (2 : Nat) h.gaps.length (gapCell h.gaps))))) = some (SV.c (Value.bool !apartF (gapsOf (D.recs (2 : Nat) h.gaps.length (gapCell h.gaps))))) ∧
  some (SV.c (Value.bool (apartF (gapsOf (D.recs (2 : Nat) h.gaps.length (gapCell h.gaps)))))) = some (SV.c (Value.bool (apartF (gapsOf (D.recs (2 : Nat) h.gaps.length (gapCell h.gaps)))))) ∧
  some (SV.a (3 : Nat)) = some (SV.a (3 : Nat)) ∧ some (SV.p (5 : Nat) (2 : Nat)) = some (SV.p (5 : Nat) (2 : Nat)) ∧ some (SV.b false) = some (SV.b false) ∧
  some (SV.p (2 : Nat) (0 : Nat)) = some (SV.p (2 : Nat) (0 : Nat)) ∧ some (SV.c (Value.int IntKind.i64 (0 : Int))) = some (SV.c (Value.int IntKind.i64 (0 : Int))) ∧
  some (SV.p (6 : Nat) (0 : Nat)) = some (SV.p (6 : Nat) (0 : Nat)) ∧ some (SV.p (5 : Nat) (0 : Nat)) = some (SV.p (5 : Nat) (0 : Nat)) ∧ some (SV.p (2 : Nat) (0 : Nat)) = some (SV.p (2 : Nat) (0 : Nat)) ∧
  some (SV.agg [SV.c (Value.int IntKind.u32 h.cum), SV.c (Value.int IntKind.u32 h.win), SV.a (3 : Nat), SV.a (4 : Nat)]) = some (SV.agg [SV.c (Value.int IntKind.u32 h.cum), SV.c (Value.int IntKind.u32 h.win), SV.a (3 : Nat), SV.a (4 : Nat)]) ∧
  True) ∧ some (R.blk (63 : Nat) [SV.a (10 : Nat)]) = some (R.blk (63 : Nat) [SV.a (10 : Nat)]) ∧ some (R.own (3 : Nat) (D.ints IntKind.i64 (ac2 q h g_1))) = some (R.own (3 : Nat) (D.ints IntKind.i64 (ac2 q h g_1))) ∧
  some R.dead = some R.dead ∧ some (R.blk (166 : Nat) [SV.c (Value.int IntKind.u32 q.next), SV.a (0 : Nat), SV.a (9 : Nat)]) = some (R.blk (166 : Nat) [SV.c (Value.int IntKind.u32 q.next), SV.a (0 : Nat), SV.a (9 : Nat)]) ∧
  some R.dead = some R.dead ∧ some R.dead = some R.dead ∧ some (R.blk (35 : Nat) [SV.c (Value.int IntKind.u32 h.cum), SV.c (Value.int IntKind.u32 h.win), SV.a (3 : Nat), SV.a (4 : Nat)]) = some (R.blk (35 : Nat) [SV.c (Value.int IntKind.u32 h.cum), SV.c (Value.int IntKind.u32 h.win), SV.a (3 : Nat), SV.a (4 : Nat)]) ∧
  some (R.ro (D.ints IntKind.u32 h.dups)) = some (R.ro (D.ints IntKind.u32 h.dups)) ∧ some (R.ro (D.recs (2 : Nat) h.gaps.length (gapCell h.gaps))) = some (R.ro (D.recs (2 : Nat) h.gaps.length (gapCell h.gaps))) ∧
  some (R.own (86 : Nat) (D.recs (7 : Nat) q.wait.length (pieCell q.wait))) = some (R.own (86 : Nat) (D.recs (7 : Nat) q.wait.length (pieCell q.wait))) ∧
  True))) ((∃ (l : List Int), [O.own (3 : Nat) (D.ints IntKind.i64 (fast3 q h g_2))] = [O.own (3 : Nat) (D.ints IntKind.i64 l)] ∧ l.length ≤ (1 : Nat)) ∧
  q.next = (heardQ (QuR.mk q.next (piesOf (D.recs (7 : Nat) q.wait.length (pieCell q.wait))) (itsOf q.out.length (itCell q.out))) (HeaR.mk h.cum h.win (gapsOf (D.recs (2 : Nat) h.gaps.length (gapCell h.gaps))) h.dups)).q.next ∧
  (q.wait.length = (heardQ (QuR.mk q.next (piesOf (D.recs (7 : Nat) q.wait.length (pieCell q.wait))) (itsOf q.out.length (itCell q.out))) (HeaR.mk h.cum h.win (gapsOf (D.recs (2 : Nat) h.gaps.length (gapCell h.gaps))) h.dups)).q.wait.length ∧
  ∀ (i : Nat), i < q.wait.length → ∀ (j : Nat), j < (7 : Nat) → pieCell q.wait i j = pieCell (heardQ (QuR.mk q.next (piesOf (D.recs (7 : Nat) q.wait.length (pieCell q.wait))) (itsOf q.out.length (itCell q.out))) (HeaR.mk h.cum h.win (gapsOf (D.recs (2 : Nat) h.gaps.length (gapCell h.gaps))) h.dups)).q.wait i j) ∧
  (q.out.length - (IntKind.i64.wrap (IntKind.u32.wrap (h.cum - y_1))).toNat = (heardQ (QuR.mk q.next (piesOf (D.recs (7 : Nat) q.wait.length (pieCell q.wait))) (itsOf q.out.length (itCell q.out))) (HeaR.mk h.cum h.win (gapsOf (D.recs (2 : Nat) h.gaps.length (gapCell h.gaps))) h.dups)).q.out.length ∧
  (∀ (i : Nat), i < (heardQ (QuR.mk q.next (piesOf (D.recs (7 : Nat) q.wait.length (pieCell q.wait))) (itsOf q.out.length (itCell q.out))) (HeaR.mk h.cum h.win (gapsOf (D.recs (2 : Nat) h.gaps.length (gapCell h.gaps))) h.dups)).q.out.length →
  ∀ (j : Nat), j < (11 : Nat) → itCell (mapTo (fun (_x : Nat) => missI) (out2 q h) g_2) i j = itCell (heardQ (QuR.mk q.next (piesOf (D.recs (7 : Nat) q.wait.length (pieCell q.wait))) (itsOf q.out.length (itCell q.out))) (HeaR.mk h.cum h.win (gapsOf (D.recs (2 : Nat) h.gaps.length (gapCell h.gaps))) h.dups)).q.out i j) ∧
  True) ∧ ac2 q h g_1 = (heardQ (QuR.mk q.next (piesOf (D.recs (7 : Nat) q.wait.length (pieCell q.wait))) (itsOf q.out.length (itCell q.out))) (HeaR.mk h.cum h.win (gapsOf (D.recs (2 : Nat) h.gaps.length (gapCell h.gaps))) h.dups)).ac ∧
  fast3 q h g_2 = (heardQ (QuR.mk q.next (piesOf (D.recs (7 : Nat) q.wait.length (pieCell q.wait))) (itsOf q.out.length (itCell q.out))) (HeaR.mk h.cum h.win (gapsOf (D.recs (2 : Nat) h.gaps.length (gapCell h.gaps))) h.dups)).fast ∧
  (0 : Int) = (heardQ (QuR.mk q.next (piesOf (D.recs (7 : Nat) q.wait.length (pieCell q.wait))) (itsOf q.out.length (itCell q.out))) (HeaR.mk h.cum h.win (gapsOf (D.recs (2 : Nat) h.gaps.length (gapCell h.gaps))) h.dups)).e ∧
  (!(Nat.beq (0 : Nat) (2 : Nat) || (Nat.beq (9 : Nat) (2 : Nat) || (Nat.beq (10 : Nat) (2 : Nat) || (Nat.beq (11 : Nat) (2 : Nat) || false)))) && (!(Nat.beq (9 : Nat) (0 : Nat) || (Nat.beq (10 : Nat) (0 : Nat) || (Nat.beq (11 : Nat) (0 : Nat) || false))) && (!(Nat.beq (10 : Nat) (9 : Nat) || (Nat.beq (11 : Nat) (9 : Nat) || false)) && (!(Nat.beq (11 : Nat) (10 : Nat) || false) && (!false && true)))) && true) = true))))) ∧
  True) := by
  simp only [↓sw_iff, ↓Bool.and_eq_true, ↓Bool.and_eq_false_iff, ↓decide_eq_true_eq, ↓decide_eq_false_iff_not, ↓Bool.not_eq_true', ↓Bool.not_eq_false', true_and, and_true, implies_true, Bool.or_false, Bool.false_or, Nat.ble, Nat.beq, Int.toNat_natCast, List.getD_cons_succ, List.getD_cons_zero, Nat.zero_add, List.length_cons, List.length_nil, piesOf_pies, itsOf_its, gapsOf_gaps, qu_eta, hea_eta, its_mk, u32w, u32_i64]
  intro q h bs hq h1 hh
  have hl : q.out.length ≤ 256 := by have := hq.2.1; omega
  simp only [u32_len hl]
  have hin : decide (u32 (h.cum - cumQ q) ≤ u32 (u32 (cumQ q + q.out.length) - cumQ q)) = inQ q h := rfl
  have hd : (u32 (h.cum - cumQ q)).toNat = doneQ q h := rfl
  have hdi : u32 (h.cum - cumQ q) = (doneQ q h : Int) := by have := (u32_r (h.cum - cumQ q)).1; unfold doneQ; omega
  refine ⟨⟨_, rfl, hh.2.2.1⟩, fun ha => ?_, fun ha => ?_⟩
  · rw [heard_1 ha]
    simp
  · refine ⟨⟨_, _, _, rfl, hq.2.1⟩, fun hw => ?_, fun hw => ?_⟩
    · rw [heard_2 ha (by rw [← hin]; simpa using hw)]
      simp
    · have hI : inQ q h = true := by rw [← hin]; simpa using hw
      have hdl : doneQ q h ≤ q.out.length := by
        have h2 : u32 (u32 (cumQ q + q.out.length) - cumQ q) = q.out.length := by unfold u32; omega
        rw [h2, hdi] at hw
        omega
      rw [heard_3 ha hI]
      simp only [hd]
      rw [hdi]
      refine ⟨by decide, by omega, 0, Nat.zero_le _, rfl, rfl, fun i hi j hj => rfl, ?_⟩
      intro g hg
      refine ⟨fun hlt => ?_, fun hlt => ?_⟩
      · have hgl : g < q.out.length := by omega
        have hX := mapTo_at (fun _ => noteI) q.out g noIt
        have hs := mapTo_succ (fun _ => noteI) q.out hgl noIt
        have hlen := mapTo_len (fun _ => noteI) q.out g
        have hwr : IntKind.i64.wrap ((g : Int) + 1) = ((g + 1 : Nat) : Int) := wrap_i64_id (by omega) (by omega)
        have hcell : ∀ (i : Nat), i < q.out.length → ∀ (j : Nat), j < 11 → setRecM (setRecM (itCell (mapTo (fun _ => noteI) q.out g)) g 9 [D.v (Value.bool true)]) g 10 [D.v (Value.bool false)] i j = itCell (mapTo (fun _ => noteI) q.out (g + 1)) i j := fun i _ j hj => by
          have := note_cells (mapTo (fun _ => noteI) q.out g) (k := g) (by omega) (i := i) hj
          rw [hX] at this
          rw [hs]; exact this
        refine ⟨by omega, fun b hb => ?_⟩
        simp only [hX, hb, ac1_len]
        refine ⟨trivial, fun _ => trivial, fun _ => trivial, fun hc => ⟨trivial, ⟨hc.1.2, hc.2⟩, trivial, ⟨hc.1.2, hc.2⟩, trivial, trivial, g + 1, by omega, by omega, hwr, ?_, hcell⟩, fun hc => ⟨trivial, trivial, g + 1, by omega, by omega, hwr, ?_, hcell⟩⟩
        · rw [ac1_succ q hgl, noteA_yes hc.1.1 hc.1.2 hc.2]
        · rw [ac1_succ q hgl, noteA_no hc]
      · have hgd : g = doneQ q h := by omega
        subst hgd
        have hL := out1_len q h
        refine ⟨⟨by omega, by omega⟩, 0, Nat.zero_le _, rfl, rfl, rfl, fun i hi j hj => ?_, ?_⟩
        · rw [itCell_drop, mapTo_drop _ _ hdl]
          rfl
        intro g1 hg1
        have hX := mapTo_at (gapI h.gaps) (out1 q h) g1 noIt
        have hlen := mapTo_len (gapI h.gaps) (out1 q h) g1
        refine ⟨fun hlt => ?_, fun hlt => ?_⟩
        · have hgl : g1 < (out1 q h).length := by omega
          have hs := mapTo_succ (gapI h.gaps) (out1 q h) hgl noIt
          have hwr : IntKind.i64.wrap ((g1 : Int) + 1) = ((g1 + 1 : Nat) : Int) := wrap_i64_id (by omega) (by omega)
          refine ⟨by omega, fun b hb => ⟨⟨_, _, rfl, hh.2.2.1⟩, fun hit => ?_, fun hit => ?_⟩⟩
          · rw [hwr] at hit
            have hit' : hitG h.gaps ((g1 : Int) + 1) = true := by rw [← hit]; rfl
            have hgi : gapI h.gaps g1 ((out1 q h).getD g1 noIt) = noteI ((out1 q h).getD g1 noIt) := by unfold gapI; rw [if_pos hit']
            have hga : ∀ ac, gapA h.gaps g1 ac ((out1 q h).getD g1 noIt) = noteA ac ((out1 q h).getD g1 noIt) := fun ac => by unfold gapA; rw [if_pos hit']
            have hla : (g1 : Int) = lastG h.gaps (g1 + 1) := by
              show _ = if hitG h.gaps ((g1 : Int) + 1) = true then (g1 : Int) else lastG h.gaps g1
              rw [if_pos hit']
            have hcell : ∀ (i : Nat), i < q.out.length - doneQ q h → ∀ (j : Nat), j < 11 → setRecM (setRecM (itCell (mapTo (gapI h.gaps) (out1 q h) g1)) g1 9 [D.v (Value.bool true)]) g1 10 [D.v (Value.bool false)] i j = itCell (mapTo (gapI h.gaps) (out1 q h) (g1 + 1)) i j := fun i _ j hj => by
              have := note_cells (mapTo (gapI h.gaps) (out1 q h) g1) (k := g1) (by omega) (i := i) hj
              rw [hX] at this
              rw [hs, hgi]; exact this
            simp only [hX, hb, ac2_len]
            refine ⟨trivial, fun _ => trivial, fun _ => trivial, fun hc => ⟨trivial, ⟨hc.1.2, hc.2⟩, trivial, ⟨hc.1.2, hc.2⟩, trivial, trivial, g1 + 1, by omega, by omega, hwr, hla, ?_, hcell⟩, fun hc => ⟨trivial, trivial, g1 + 1, by omega, by omega, hwr, hla, ?_, hcell⟩⟩
            · rw [ac2_succ q h hgl, hga, noteA_yes hc.1.1 hc.1.2 hc.2]
            · rw [ac2_succ q h hgl, hga, noteA_no hc]
          · rw [hwr] at hit
            have hit' : ¬ hitG h.gaps ((g1 : Int) + 1) = true := by rw [show hitG h.gaps ((g1 : Int) + 1) = false from hit]; decide
            have hgi : gapI h.gaps g1 ((out1 q h).getD g1 noIt) = { (out1 q h).getD g1 noIt with heard := false } := by unfold gapI; rw [if_neg hit']
            have hga : ∀ ac, gapA h.gaps g1 ac ((out1 q h).getD g1 noIt) = ac := fun ac => by unfold gapA; rw [if_neg hit']
            have hla : lastG h.gaps g1 = lastG h.gaps (g1 + 1) := by
              show _ = if hitG h.gaps ((g1 : Int) + 1) = true then (g1 : Int) else lastG h.gaps g1
              rw [if_neg hit']
            refine ⟨hb, g1 + 1, by omega, by omega, hwr, hla, ?_, fun i _ j hj => ?_⟩
            · rw [ac2_succ q h hgl, hga]
            · have := dumb_cells (mapTo (gapI h.gaps) (out1 q h) g1) (k := g1) (by omega) (i := i) hj
              rw [hX] at this
              rw [hs, hgi]; exact this
        · have hgd : g1 = (out1 q h).length := by omega
          subst hgd
          have hlr := lastG_r h.gaps (out1 q h).length
          have hwr : IntKind.i64.wrap (lastG h.gaps (out1 q h).length + 1) = (last2 q h : Int) := by
            rw [wrap_i64_id (by omega) (by omega)]
            unfold last2
            omega
          have hl2 : last2 q h ≤ (out1 q h).length := by unfold last2; omega
          rw [hwr]
          refine ⟨by omega, 0, Nat.zero_le _, rfl, rfl, fun i hi j hj => ?_, ?_⟩
          · rw [mapTo_all]
            rfl
          intro g2 hg2
          simp only [Int.toNat_natCast]
          have hL2 := out2_len q h
          have hX2 := mapTo_at (fun _ => missI) (out2 q h) g2 noIt
          have hlen2 := mapTo_len (fun _ => missI) (out2 q h) g2
          have hone := fast3_one (h := h) h1
          refine ⟨fun hlt => ?_, fun hlt => ?_⟩
          · have hgl : g2 < (out2 q h).length := by omega
            have hs := mapTo_succ (fun _ => missI) (out2 q h) hgl noIt
            have hf := fast3_succ q h hgl
            have hwr2 : IntKind.i64.wrap ((g2 : Int) + 1) = ((g2 + 1 : Nat) : Int) := wrap_i64_id (by omega) (by omega)
            obtain ⟨y, hy, ey1, ey2, ey3⟩ := out2_mem (gd_mem hgl noIt)
            have hm := (hq.2.2.2 y hy).2
            simp only [hX2, cond_eq_if, if_true]
            generalize hx : (out2 q h).getD g2 noIt = x at *
            have hwm : IntKind.i64.wrap (x.missed + 1) = x.missed + 1 := wrap_i64_id (by omega) (by omega)
            rw [hwm]
            refine ⟨by omega, fun b hb => ⟨hb, fun _ => hb, fun hc => ⟨g2 + 1, by omega, by omega, hwr2, ?_, fun i _ j hj => ?_⟩, fun hc => ⟨hb, hb, hb, fun h3 => ⟨hb, hb, hb, ⟨_, _, rfl, ?_⟩, fun hn => ⟨hb, ?_, g2 + 1, by omega, by omega, hwr2, ?_, fun i _ j hj => ?_⟩, fun hn => ⟨g2 + 1, by omega, by omega, hwr2, ?_, fun i _ j hj => ?_⟩⟩, fun h3 => ⟨g2 + 1, by omega, by omega, hwr2, ?_, fun i _ j hj => ?_⟩⟩⟩⟩
            · rw [hf, (missI_no hc).2]
            · rw [hs, (missI_no hc).1, ← hX2, set_same]
            · rcases hone g2 with e | e <;> rw [e] <;> simp
            · rw [bytes3]
              rcases hone g2 with e | e <;> rw [e] <;> simp
            · rw [hf]
              unfold missF fliesI
              rw [if_pos ⟨by simp [hc], h3, hn⟩]
            · have := fast_cells (mapTo (fun _ => missI) (out2 q h) g2) (k := g2) (by omega) (i := i) hj (x.missed + 1)
              rw [hX2] at this
              rw [hs]
              unfold missI fliesI
              rw [if_pos (by simp [hc]), if_pos h3]; exact this
            · rw [hf]
              unfold missF
              rw [if_neg (fun h => h.2.2 hn)]
            · have := fast_cells (mapTo (fun _ => missI) (out2 q h) g2) (k := g2) (by omega) (i := i) hj (x.missed + 1)
              rw [hX2] at this
              rw [hs]
              unfold missI fliesI
              rw [if_pos (by simp [hc]), if_pos h3]; exact this
            · rw [hf]
              unfold missF
              rw [if_neg (fun h => h3 h.2.1)]
            · have := miss_cells (mapTo (fun _ => missI) (out2 q h) g2) (k := g2) (by omega) (i := i) hj (x.missed + 1)
              rw [hX2] at this
              rw [hs]
              unfold missI fliesI
              rw [if_pos (by simp [hc]), if_neg h3]; exact this
          · have hgd : g2 = last2 q h := by omega
            subst hgd
            refine ⟨⟨_, rfl, ?_⟩, trivial, ⟨trivial, fun _ _ _ _ => trivial⟩, ⟨?_, fun i _ j hj => ?_⟩, ?_⟩
            · rcases hone (last2 q h) with e | e <;> rw [e] <;> simp
            · show _ = (mapTo (fun _ => missI) (out2 q h) (last2 q h)).length
              rw [hlen2, hL2]
            · first | trivial | rfl
            · exact ⟨trivial, rfl, trivial⟩
set_option maxRecDepth 100000 in
theorem ok41 : FnIs Try.prog 41 heardQC := by
  refine fnIs (C := (ctrsJ Try.prog n3 iN3 3)) (by kernel_rfl) (cokJ (by kernel_rfl) n3_ok iN3_ok) Try.func41 (code := code41) (by kernel_rfl) (by kernel_rfl) ?_
  rintro a ⟨bs, q, h, rfl, hq, h1, hh⟩
  exact ⟨anns [(12, h1Ann q h), (19, h2Ann q h), (28, h3Ann q h)] [], kcast (vc41 q h bs hq h1 hh) (by kernel_rfl)⟩

end Go.ZR
