/- Part 24 of what the closing text rests on. -/
import Derived.Test.YtlbfenfepmmihaaU23
set_option maxRecDepth 100000
namespace Go.ZM
open Go.Z Go.ZR
def toldF (x : List Int) (n : Nat) (last : Int) : List Int := (List.range n).map fun j : Nat => if x.getD j 0 ≤ last then 1 else 0
def bump (told : List Int) (l : List Tim) : List Int := l.foldl (fun t e => t.set e.id.toNat (t.getD e.id.toNat 0 + 1)) told
def lateS (x : List Int) (n : Nat) (last : Int) : List Tim := (mkS x n).filter fun t => decide (last < t.at_)
def onceP (m i : Nat) (now last : Int) : Prop := i ≤ m + 1 ∧ (i = 0 → now = 0 ∧ last = -1) ∧ (0 < i → last = now) ∧ (i ≤ m → 0 ≤ now ∧ now ≤ 65535 * i) ∧ (i = m + 1 → now = 7000000)
def dueOk (x : List Int) (n : Nat) (now last : Int) (l : List Tim) : Prop := l.length ≤ 4096 ∧ ∀ t ∈ l, 0 ≤ t.id ∧ t.id < n ∧ t.at_ = x.getD t.id.toNat 0 ∧ t.at_ ≤ now ∧ last < t.at_
theorem toldF_len (x : List Int) (n : Nat) (last : Int) : (toldF x n last).length = n := by simp [toldF]
theorem told_get {x : List Int} {n j : Nat} (s : Int) (hj : j < n) : (toldF x n s).getD j 0 = if x.getD j 0 ≤ s then 1 else 0 := by
  unfold toldF
  rw [List.getD_eq_getElem?_getD, List.getElem?_map, List.getElem?_range hj]
  rfl
theorem bump_len : ∀ (l : List Tim) (told : List Int), (bump told l).length = told.length
  | [], _ => rfl
  | t :: l, told => by
    show (bump (told.set _ _) l).length = _
    rw [bump_len l, List.length_set]
theorem bump_next {told : List Int} {l : List Tim} {k : Nat} (hk : k < l.length) : bump told (l.take (k + 1)) = (bump told (l.take k)).set (l.getD k noTim).id.toNat ((bump told (l.take k)).getD (l.getD k noTim).id.toNat 0 + 1) := by
  have e : l.take (k + 1) = l.take k ++ [l.getD k noTim] := by
    rw [List.take_add_one, List.getElem?_eq_getElem hk]
    simp [List.getD, hk]
  unfold bump
  rw [e, List.foldl_append]
  rfl
theorem bump_at : ∀ (l : List Tim) (told : List Int) (j : Nat), (∀ t ∈ l, 0 ≤ t.id) → j < told.length → (bump told l).getD j 0 = told.getD j 0 + (l.countP fun t => decide (t.id = (j : Int)) : Nat)
  | [], told, j, _, _ => by simp [bump]
  | t :: l, told, j, h, hj => by
    show (bump (told.set _ _) l).getD j 0 = _
    rw [bump_at l _ j (fun s hs => h s (List.mem_cons_of_mem _ hs)) (by rw [List.length_set]; exact hj), List.countP_cons]
    have h0 := h t (List.mem_cons_self ..)
    by_cases e : t.id = (j : Int)
    · have e2 : t.id.toNat = j := by omega
      rw [e2, e]
      have : (told.set j (told.getD j 0 + 1)).getD j 0 = told.getD j 0 + 1 := by simp [List.getD, hj]
      rw [this]
      simp
      omega
    · have e2 : t.id.toNat ≠ j := by omega
      have : (told.set t.id.toNat (told.getD t.id.toNat 0 + 1)).getD j 0 = told.getD j 0 := by simp [List.getD, e2]
      rw [this]
      simp [e]
theorem bump_bnd {x : List Int} {n i j : Nat} {last : Int} {l : List Tim} (hl : l.length ≤ 4096) (hid : ∀ t ∈ l, 0 ≤ t.id) (hi : i < n) : 0 ≤ (bump (toldF x n last) (l.take j)).getD i 0 ∧ (bump (toldF x n last) (l.take j)).getD i 0 ≤ 4097 := by
  rw [bump_at _ _ i (fun t ht => hid t (List.mem_of_mem_take ht)) (by rw [toldF_len]; exact hi), told_get _ hi]
  have h1 : ((l.take j).countP fun t => decide (t.id = (i : Int))) ≤ (l.take j).length := List.countP_le_length
  rw [List.length_take] at h1
  split <;> omega
theorem mkS_mem {x : List Int} {n : Nat} {t : Tim} (h : t ∈ mkS x n) : 0 ≤ t.id ∧ t.id < n ∧ t.at_ = x.getD t.id.toNat 0 := by
  unfold mkS at h
  obtain ⟨j, hj, rfl⟩ := List.mem_map.1 h
  have := List.mem_range.1 hj
  exact ⟨by simp only; omega, by simp only; omega, by simp⟩
theorem mkS_in {x : List Int} {n j : Nat} (h : j < n) : (⟨(j : Int), x.getD j 0⟩ : Tim) ∈ mkS x n := List.mem_map.2 ⟨j, List.mem_range.2 h, rfl⟩
theorem count_one {l : List Tim} (hn : (l.map Tim.id).Nodup) {t : Tim} (ht : t ∈ l) : (l.countP fun s => decide (s.id = t.id)) = 1 := by
  have h1 : (l.map Tim.id).count t.id = 1 := by
    rw [List.Nodup.count hn, if_pos (List.mem_map.2 ⟨t, ht, rfl⟩)]
  rw [List.count, List.countP_map] at h1
  rw [← h1]
  refine List.countP_congr fun s _ => ?_
  simp
theorem bump_due {x : List Int} {n : Nat} {last now : Int} {l : List Tim} (h : l.Perm ((lateS x n last).filter fun t => decide (t.at_ ≤ now))) (hle : last ≤ now) : bump (toldF x n last) l = toldF x n now := by
  have hmem : ∀ t ∈ l, t ∈ mkS x n ∧ last < t.at_ ∧ t.at_ ≤ now := fun t ht => by
    have h1 := List.mem_filter.1 (h.mem_iff.1 ht)
    have h2 := List.mem_filter.1 h1.1
    exact ⟨h2.1, of_decide_eq_true h2.2, of_decide_eq_true h1.2⟩
  have hnd : (l.map Tim.id).Nodup := by
    rw [(h.map _).nodup_iff]
    refine List.Nodup.sublist ((List.filter_sublist.trans List.filter_sublist).map _) ?_
    rw [mkS_ids]
    exact rgI_nodup n
  refine List.ext_getElem? fun j => ?_
  by_cases hj : j < n
  · have b := bump_at l (toldF x n last) j (fun t ht => (mkS_mem (hmem t ht).1).1) (by rw [toldF_len]; exact hj)
    have g1 := fun s => told_get (x := x) s hj
    have l1 : j < (bump (toldF x n last) l).length := by rw [bump_len, toldF_len]; exact hj
    have l2 : j < (toldF x n now).length := by rw [toldF_len]; exact hj
    have k1 : (bump (toldF x n last) l)[j]? = some ((bump (toldF x n last) l).getD j 0) := by simp [List.getD, l1]
    have k2 : (toldF x n now)[j]? = some ((toldF x n now).getD j 0) := by simp [List.getD, l2]
    rw [k1, k2, b, g1, g1]
    congr 1
    by_cases c : last < x.getD j 0 ∧ x.getD j 0 ≤ now
    · have hin : (⟨(j : Int), x.getD j 0⟩ : Tim) ∈ l := h.mem_iff.2 (List.mem_filter.2 ⟨List.mem_filter.2 ⟨mkS_in hj, decide_eq_true c.1⟩, decide_eq_true c.2⟩)
      have := count_one hnd hin
      rw [show (l.countP fun t => decide (t.id = (j : Int))) = 1 from this, if_neg (by omega), if_pos c.2]
      rfl
    · have h0 : (l.countP fun t => decide (t.id = (j : Int))) = 0 := by
        rw [List.countP_eq_zero]
        intro t ht hd
        have hd' := of_decide_eq_true hd
        obtain ⟨m1, m2, m3⟩ := hmem t ht
        have := (mkS_mem m1).2.2
        rw [hd', Int.toNat_natCast] at this
        exact c ⟨by omega, by omega⟩
      rw [h0]
      by_cases c1 : x.getD j 0 ≤ last
      · rw [if_pos c1, if_pos (by omega)]; rfl
      · rw [if_neg c1, if_neg (fun h => c ⟨by omega, h⟩)]; rfl
  · rw [List.getElem?_eq_none (by rw [bump_len, toldF_len]; omega), List.getElem?_eq_none (by rw [toldF_len]; omega)]
theorem late_late {x : List Int} {n : Nat} {last now : Int} (h : last ≤ now) : ((lateS x n last).filter fun t => decide (now < t.at_)) = lateS x n now := by
  unfold lateS
  rw [List.filter_filter]
  refine List.filter_congr fun t _ => ?_
  by_cases c : now < t.at_
  · simp [c]; omega
  · simp [c]
theorem due_once {x : List Int} {n : Nat} {last now : Int} {V : Whl} (r : Rep V (lateS x n last)) (h : last ≤ now) :
    Rep (dueW V now).2 (lateS x n now) ∧ dueOk x n now last (dueW V now).1 ∧ bump (toldF x n last) (dueW V now).1 = toldF x n now := by
  obtain ⟨a1, a2, _⟩ := due_rep r now
  rw [late_late h] at a1
  refine ⟨a1, ⟨due_len r now, fun t ht => ?_⟩, bump_due a2 h⟩
  have h1 := List.mem_filter.1 (a2.mem_iff.1 ht)
  have h2 := List.mem_filter.1 h1.1
  have h3 := mkS_mem h2.1
  exact ⟨h3.1, h3.2.1, h3.2.2, of_decide_eq_true h1.2, of_decide_eq_true h2.2⟩
theorem late_start {x : List Int} {n : Nat} (h : ∀ z ∈ x, 0 ≤ z ∧ z ≤ 65535) (hn : n ≤ x.length) : lateS x n (-1) = mkS x n := List.filter_eq_self.2 fun t ht => by
  obtain ⟨h1, h2, h3⟩ := mkS_mem ht
  have := elem_in h (i := t.id.toNat) (by omega)
  exact decide_eq_true (by omega)
theorem told_start {x : List Int} {n : Nat} (h : ∀ z ∈ x, 0 ≤ z ∧ z ≤ 65535) (hn : n ≤ x.length) : toldF x n (-1) = List.replicate n 0 := by
  rw [List.eq_replicate_iff]
  refine ⟨toldF_len _ _ _, fun z hz => ?_⟩
  obtain ⟨j, hj, rfl⟩ := List.mem_map.1 hz
  have hj' := List.mem_range.1 hj
  have := elem_in h (i := j) (by omega)
  rw [if_neg (by omega)]
theorem told_end {x : List Int} {n : Nat} (h : ∀ z ∈ x, 0 ≤ z ∧ z ≤ 65535) (hn : n ≤ x.length) {j : Nat} (hj : j < n) : (toldF x n 7000000).getD j 0 = 1 := by
  have := elem_in h (i := j) (by omega)
  rw [told_get _ hj, if_pos (by omega)]
theorem late_end {x : List Int} {n : Nat} (h : ∀ z ∈ x, 0 ≤ z ∧ z ≤ 65535) (hn : n ≤ x.length) : lateS x n 7000000 = [] := List.filter_eq_nil_iff.2 fun t ht => by
  obtain ⟨h1, h2, h3⟩ := mkS_mem ht
  have := elem_in h (i := t.id.toNat) (by omega)
  simp
  omega
end Go.ZM
namespace Go.ZR
open Go.Z Go.ZM Go.Proofs
def wOnceC : Ctr := yesW 2 fun a => ∃ x y : List Int, a = [.d (.ints .u16 x), .d (.ints .u16 y)] ∧ (inB 65535 x ∧ x.length ≤ 1048576) ∧ (inB 65535 y ∧ y.length ≤ 1048576)
def wOnceA1 (x : List Int) : LoopAnn where
  γ := Nat × Whl
  pre := fun g => g.1 ≤ nOf 200 x ∧ Rep g.2 (mkS x g.1)
  μ := fun g => nOf 200 x - g.1
  items := fun g => [(7, .c (iO .i64 (g.1 : Int))), (5, .blk (whB g.2.l g.2.ks))]
def wOnceA2 (x y : List Int) : LoopAnn where
  γ := (Nat × Int × Int) × Whl × List Int
  pre := fun g => onceP (nOf 100 y) g.1.1 g.1.2.1 g.1.2.2 ∧ Rep g.2.1 (lateS x (nOf 200 x) g.1.2.2) ∧ g.2.2 = toldF x (nOf 200 x) g.1.2.2
  μ := fun g => nOf 100 y + 1 - g.1.1
  items := fun g => [(11, .c (iO .i64 (g.1.1 : Int))), (9, .c (iO .i64 g.1.2.1)), (10, .c (iO .i64 g.1.2.2)), (5, .blk (whB g.2.1.l g.2.1.ks)), (8, .c (idsO g.2.2))]
def wOnceA3 (x : List Int) (p : List Tim × List Int × Int × Int) : LoopAnn where
  γ := Nat × List Int
  pre := fun g => g.1 ≤ p.1.length ∧ g.2 = bump p.2.1 (p.1.take g.1) ∧ p.2.1.length = nOf 200 x ∧ dueOk x (nOf 200 x) p.2.2.1 p.2.2.2 p.1
  μ := fun g => p.1.length - g.1
  items := fun g => [(13, .c (iO .i64 (g.1 : Int))), (8, .c (idsO g.2))]
def wOnceA4 (x : List Int) : LoopAnn where
  γ := Nat
  pre := fun g => g ≤ nOf 200 x
  μ := fun g => nOf 200 x - g
  items := fun g => [(15, .c (iO .i64 (g : Int)))]
end Go.ZR
