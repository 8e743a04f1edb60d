/- Part 16 of what the closing text rests on. -/
import Derived.Test.YtlbfenfepmmihaaU15
import Derived.Test.YtlbfenfepmmihaaRows
set_option maxRecDepth 100000
namespace Go.ZM
theorem upF_perm {n : Nat} : ∀ (u : Nat) (f : Nat → Tim) {j : Nat}, j < n → ((List.range n).map (upF u f j)).Perm ((List.range n).map f)
  | 0, _, _, _ => .refl _
  | u + 1, f, j, hj => by
    unfold upF
    split
    · exact .refl _
    · split
      · exact .refl _
      · exact (upF_perm u _ (by omega)).trans (swp_perm f (by omega) hj)
theorem downF_perm {n : Nat} : ∀ (u : Nat) (f : Nat → Tim) {i : Nat}, i < n ∨ n ≤ i → ((List.range n).map (downF u f i n).1).Perm ((List.range n).map f)
  | 0, _, _, _ => .refl _
  | u + 1, f, i, hi => by
    unfold downF
    split
    · exact .refl _
    · split
      · exact .refl _
      · have := kid_lt (f := f) (i := i) (n := n) (by omega)
        exact (downF_perm u _ (.inl this.1)).trans (swp_perm f (by omega) this.1)
theorem downF_beyond {n : Nat} : ∀ (u : Nat) (f : Nat → Tim) {i k : Nat}, n ≤ k → (downF u f i n).1 k = f k
  | 0, _, _, _, _ => rfl
  | u + 1, f, i, k, hk => by
    unfold downF
    split
    · rfl
    · split
      · rfl
      · have := kid_lt (f := f) (i := i) (n := n) (by omega)
        rw [downF_beyond u _ hk, swp_o (by omega) (by omega)]
theorem hp_congr {f g : Nat → Tim} {n : Nat} (h : hp f n) (e : ∀ k, k < n → g k = f k) : hp g n := fun k hk hkn => by
  rw [e k hkn, e _ (by omega)]
  exact h k hk hkn
def tf (l : List Tim) : Nat → Tim := fun k => l.getD k noTim
def fl (f : Nat → Tim) (n : Nat) : List Tim := (List.range n).map f
theorem fl_len (f : Nat → Tim) (n : Nat) : (fl f n).length = n := by simp [fl]
theorem fl_tf (l : List Tim) : fl (tf l) l.length = l := range_getD l noTim
theorem tf_fl {f : Nat → Tim} {n k : Nat} (h : k < n) : tf (fl f n) k = f k := by simp [tf, fl, List.getD, h]
def hpL (l : List Tim) : Prop := hp (tf l) l.length
theorem hpL_fl {f : Nat → Tim} {n : Nat} (h : hp f n) : hpL (fl f n) := by
  unfold hpL
  rw [fl_len]
  exact hp_congr h fun k hk => tf_fl hk
theorem tf_app {l : List Tim} {t : Tim} {k : Nat} (h : k < l.length) : tf (l ++ [t]) k = tf l k := by
  simp [tf, List.getD, List.getElem?_append_left h]
def pushT (l : List Tim) (t : Tim) : List Tim := fl (upF (l.length + 1) (tf (l ++ [t])) l.length) (l.length + 1)
theorem pushT_hp {l : List Tim} (h : hpL l) (t : Tim) : hpL (pushT l t) := by
  refine hpL_fl (upF_hp _ ⟨fun k hk hkn hne => ?_, fun _ k hk hkn hp => by omega⟩ (by omega) (by omega))
  rw [tf_app (by omega), tf_app (by omega)]
  exact h k hk (by omega)
theorem pushT_perm (l : List Tim) (t : Tim) : (pushT l t).Perm (l ++ [t]) := by
  have h := upF_perm (l.length + 1) (tf (l ++ [t])) (n := l.length + 1) (j := l.length) (by omega)
  have e := fl_tf (l ++ [t])
  rw [List.length_append] at e
  exact h.trans (by show (fl _ _).Perm _; rw [show l.length + 1 = l.length + [t].length from rfl, e])
theorem range_succ_map (f : Nat → Tim) (m : Nat) : (List.range (m + 1)).map f = fl f m ++ [f m] := by
  rw [List.range_succ, List.map_append]
  rfl
def popF (l : List Tim) : Nat → Tim := (downF (l.length - 1) (swp (tf l) 0 (l.length - 1)) 0 (l.length - 1)).1
def popT (l : List Tim) : List Tim := fl (popF l) (l.length - 1)
theorem popT_hp {l : List Tim} (h : hpL l) (h0 : 0 < l.length) : hpL (popT l) := by
  refine hpL_fl (downF_hp _ ⟨fun k hk hkn hne => ?_, fun h => absurd h (by omega)⟩ (by omega))
  rw [swp_o (by omega) (by omega), swp_o (by omega) (by omega)]
  exact h k hk (by omega)
theorem popT_perm {l : List Tim} (h : 0 < l.length) : (tf l 0 :: popT l).Perm l := by
  obtain ⟨m, hm⟩ : ∃ m, l.length = m + 1 := ⟨l.length - 1, by omega⟩
  have e1 : ((List.range (m + 1)).map (swp (tf l) 0 m)).Perm l := by
    have := swp_perm (tf l) (i := 0) (j := m) (n := m + 1) (by omega) (by omega)
    refine this.trans ?_
    have e := fl_tf l
    rw [hm] at e
    exact .of_eq e
  have e2 : popT l = fl (downF m (swp (tf l) 0 m) 0 m).1 m := by
    unfold popT popF
    rw [hm]
    rfl
  rw [range_succ_map, swp_j] at e1
  rw [e2]
  have e3 : (fl (downF m (swp (tf l) 0 m) 0 m).1 m).Perm (fl (swp (tf l) 0 m) m) := downF_perm m _ (by omega)
  exact ((e3.cons _).trans (List.perm_append_singleton _ _).symm).trans e1
theorem tf_set {l : List Tim} {k : Nat} (h : k < l.length) (t : Tim) (i : Nat) : tf (l.set k t) i = if i = k then t else tf l i := by
  unfold tf
  simp only [List.getD, List.getElem?_set]
  by_cases e : k = i
  · subst e; simp [h]
  · simp [e, Ne.symm e]
def moveT (l : List Tim) (k : Nat) (a : Int) : List Tim := fl (fixF (tf (l.set k ⟨(tf l k).id, a⟩)) k l.length) l.length
def cutF (l : List Tim) (k : Nat) : Nat → Tim := if k = l.length - 1 then tf l else fixF (swp (tf l) k (l.length - 1)) k (l.length - 1)
def cutT (l : List Tim) (k : Nat) : List Tim := fl (cutF l k) (l.length - 1)
def dueT : Nat → Int → List Tim → List Tim × List Tim
  | 0, _, l => ([], l)
  | u + 1, now, l => if l.length = 0 ∨ now < (tf l 0).at_ then ([], l) else ((tf l 0) :: (dueT u now (popT l)).1, (dueT u now (popT l)).2)
theorem popT_len (l : List Tim) : (popT l).length = l.length - 1 := fl_len _ _
theorem dueT_all : ∀ (u : Nat) (now : Int) {l : List Tim}, hpL l → l.length ≤ u → hpL (dueT u now l).2 ∧ ((dueT u now l).1 ++ (dueT u now l).2).Perm l ∧ (∀ t ∈ (dueT u now l).1, t.at_ ≤ now) ∧ (∀ t ∈ (dueT u now l).2, now < t.at_) ∧ (dueT u now l).1.Pairwise leT
  | 0, now, l, h, hu => by
    have e : l = [] := List.eq_nil_of_length_eq_zero (by omega)
    subst e
    exact ⟨h, .refl _, by simp [dueT], by simp [dueT], .nil⟩
  | u + 1, now, l, h, hu => by
    unfold dueT
    split
    · rename_i hc
      refine ⟨h, .refl _, by simp, fun t ht => ?_, .nil⟩
      have ht' : t ∈ l := ht
      obtain ⟨k, hk, rfl⟩ := List.getElem_of_mem ht'
      rcases hc with hc | hc
      · omega
      · have a := leT_iff.1 (hp_root h k hk)
        have e : tf l k = l[k] := by simp [tf, List.getD, hk]
        rw [e] at a
        omega
    · rename_i hc
      have hpos : 0 < l.length := by omega
      obtain ⟨i1, i2, i3, i4, i5⟩ := dueT_all u now (popT_hp h hpos) (by rw [popT_len]; omega)
      have p1 : ((tf l 0) :: ((dueT u now (popT l)).1 ++ (dueT u now (popT l)).2)).Perm l := (i2.cons _).trans (popT_perm hpos)
      refine ⟨i1, p1, fun t ht => ?_, i4, ?_⟩
      · rcases List.mem_cons.1 ht with rfl | ht
        · omega
        · exact i3 t ht
      · refine List.pairwise_cons.2 ⟨fun t ht => ?_, i5⟩
        have hm : t ∈ l := p1.mem_iff.1 (List.mem_cons_of_mem _ (List.mem_append_left _ ht))
        obtain ⟨k, hk, rfl⟩ := List.getElem_of_mem hm
        have a := hp_root h k hk
        have e : tf l k = l[k] := by simp [tf, List.getD, hk]
        rw [e] at a
        exact a
end Go.ZM

set_option maxRecDepth 100000
namespace Go.ZM
open Go.Z
structure Whl where
  l : List Tim
  ks : List Int
def timCell (l : List Tim) (i j : Nat) : D :=
  match j with
  | 0 => .v (.int .i64 (l.getD i noTim).id)
  | 1 => .v (.int .i64 (l.getD i noTim).at_)
  | _ => .v (.int .i64 0)
def posI (l : List Tim) (x : Int) : Int := ((l.findIdx fun t => t.id == x : Nat) : Int)
def posL (w : Whl) : List Int := w.ks.map (posI w.l)
def okW (w : Whl) : Prop := (w.l.map Tim.id).Nodup ∧ w.ks.Perm (w.l.map Tim.id) ∧ w.l.length ≤ 4096
def swpL (l : List Tim) (i j : Nat) : List Tim := fl (swp (tf l) i j) l.length
def timAt (g : Nat → D) : Tim := ⟨Go.ZR.vi (g 0), Go.ZR.vi (g 1)⟩
def timsOf : D → List Tim
  | .recs _ n f => (List.range n).map fun i => timAt (f i)
  | _ => []
theorem timsOf_cell (l : List Tim) : timsOf (.recs 2 l.length (timCell l)) = l := range_getD l noTim
def noW : Whl := ⟨[], []⟩
def cmpI (a b : Int) : Int := if a < b then -1 else if b < a then 1 else 0
def ordF (a b : Tim) : Int := if cmpI a.at_ b.at_ ≠ 0 then cmpI a.at_ b.at_ else cmpI a.id b.id
end Go.ZM
namespace Go.ZR
open Go.Z Go.ZM Go.Proofs
def whL (w : Whl) : List O := [.own 99 (.recs 2 w.l.length (timCell w.l)), .map (.ints .i64 w.ks) (.ints .i64 (posL w))]
def whO (w : Whl) : O := .ptr 183 (whL w)
def whI (w : Whl) : O := .ifc 186 (whO w)
def whOf : O → Whl
  | .ptr 183 [.own _ d, .map (.ints _ ks) _] => ⟨timsOf d, ks⟩
  | .ifc _ (.ptr 183 [.own _ d, .map (.ints _ ks) _]) => ⟨timsOf d, ks⟩
  | _ => noW
def timO (t : Tim) : O := .agg [iO .i64 t.id, iO .i64 t.at_]
def timI (t : Tim) : O := .ifc 99 (timO t)
def whA (a : List O) : Whl := whOf (at_ a 0)
def inA (a : List O) (i : Nat) : Nat := (vi (dO (at_ a i))).toNat
def timOfO : O → Tim
  | .agg [x, y] => ⟨vi (dO x), vi (dO y)⟩
  | .ifc _ (.agg [x, y]) => ⟨vi (dO x), vi (dO y)⟩
  | _ => noTim
def whC (n : Nat) (pre : List O → Prop) (f : List O → Whl) (res : List O → List O) : Ctr where
  own := true :: List.replicate n false
  pre := pre
  res := res
  upd := fun a => whO (f a) :: List.replicate n .any
  ro := true
  quiet := false
def ordC : Ctr := nC 2 true (fun a => ∃ s t, a = [timO s, timO t]) fun a => [iO .i64 (ordF (timOfO (at_ a 0)) (timOfO (at_ a 1)))]
def cmpC : Ctr := nC 2 true (fun a => ∃ s t, a = [iO .i64 s, iO .i64 t]) fun a => [iO .i64 (cmpI (vi (dO (at_ a 0))) (vi (dO (at_ a 1))))]
def wLenC : Ctr := whC 0 (fun a => ∃ w, a = [whO w] ∧ w.l.length ≤ 4096) whA fun a => [iO .i64 ((whA a).l.length : Int)]
def wLessC : Ctr := whC 2 (fun a => ∃ (w : Whl) (i j : Nat), a = [whO w, iO .i64 (i : Int), iO .i64 (j : Int)] ∧ w.l.length ≤ 4096 ∧ i < w.l.length ∧ j < w.l.length) whA fun a => [bO (ltT (tf (whA a).l (inA a 1)) (tf (whA a).l (inA a 2)))]
def wPushC : Ctr := { whC 1 (fun a => ∃ (w : Whl) (t : Tim), a = [whO w, timI t] ∧ okW w ∧ w.l.length < 4096 ∧ t.id ∉ w.ks) (fun a => ⟨(whA a).l ++ [timOfO (at_ a 1)], (whA a).ks ++ [(timOfO (at_ a 1)).id]⟩) fun _ => [] with own := [true, true] }
def wPopC : Ctr := whC 0 (fun a => ∃ w : Whl, a = [whO w] ∧ okW w ∧ 0 < w.l.length) (fun a => ⟨(whA a).l.dropLast, (whA a).ks.erase (tf (whA a).l ((whA a).l.length - 1)).id⟩) fun a => [timI (tf (whA a).l ((whA a).l.length - 1))]
def wSwapC : Ctr := whC 2 (fun a => ∃ (w : Whl) (i j : Nat), a = [whO w, iO .i64 (i : Int), iO .i64 (j : Int)] ∧ okW w ∧ i < w.l.length ∧ j < w.l.length) (fun a => ⟨swpL (whA a).l (inA a 1) (inA a 2), (whA a).ks⟩) fun _ => []
end Go.ZR

namespace Go.ZR
open Go.Proofs
open Go.Z Go.ZM Go.RowKit
set_option maxRecDepth 100000
theorem bytes99 : Try.prog.types[(99 : Nat)].bytes = 16 := by kernel_rfl
theorem size99 : Try.prog.types[(99 : Nat)].size = 2 := by kernel_rfl
theorem wmidx_none : ∀ {ks : List Int} {x : Int}, x ∉ ks → midx ks x = none
  | [], _, _ => rfl
  | k :: ks, x, h => by
    unfold midx
    rw [if_neg (fun e => h (by simp [e])), wmidx_none (fun e => h (List.mem_cons_of_mem _ e))]
theorem posI_app {l : List Tim} {t : Tim} {x : Int} (h : x ∈ l.map Tim.id) : posI (l ++ [t]) x = posI l x := by
  unfold posI
  rw [List.findIdx_append, if_pos]
  obtain ⟨s, hs, e⟩ := List.mem_map.1 h
  exact List.findIdx_lt_length_of_exists ⟨s, hs, by simp [e]⟩
theorem posI_new {l : List Tim} {t : Tim} (h : t.id ∉ l.map Tim.id) : posI (l ++ [t]) t.id = l.length := by
  unfold posI
  have e : l.findIdx (fun s => s.id == t.id) = l.length := List.findIdx_eq_length_of_false fun s hs => by
    simp only [beq_eq_false_iff_ne]
    exact fun e => h (List.mem_map.2 ⟨s, hs, e⟩)
  rw [List.findIdx_append, if_neg (by rw [e]; exact Nat.lt_irrefl _)]
  simp
theorem posL_push {w : Whl} {t : Tim} (h : okW w) (hn : t.id ∉ w.ks) : posL ⟨w.l ++ [t], w.ks ++ [t.id]⟩ = posL w ++ [(w.l.length : Int)] := by
  unfold posL
  have e1 : w.ks.map (posI (w.l ++ [t])) = w.ks.map (posI w.l) := List.map_congr_left fun x hx => posI_app (h.2.1.mem_iff.1 hx)
  show (w.ks ++ [t.id]).map (posI (w.l ++ [t])) = _
  rw [List.map_append, e1]
  show _ ++ [posI (w.l ++ [t]) t.id] = _
  rw [posI_new fun e => hn (h.2.1.mem_iff.2 e)]
theorem mdel_map (g : Int → Int) : ∀ {ks : List Int} {x : Int}, mdel (ks.map g) (midx ks x) = (ks.erase x).map g
  | [], _ => rfl
  | k :: ks, x => by
    unfold midx
    by_cases e : x = k
    · subst e
      simp [mdel]
    · rw [if_neg e, List.erase_cons_tail (by simpa using Ne.symm e)]
      have ih := mdel_map g (ks := ks) (x := x)
      cases hm : midx ks x with
      | none => rw [hm] at ih; simpa [mdel] using ih
      | some j => rw [hm] at ih; simpa [mdel] using ih
theorem mdel_ks (ks : List Int) (x : Int) : mdel ks (midx ks x) = ks.erase x := by
  have := mdel_map id (ks := ks) (x := x)
  simpa using this
theorem timCell_app (l : List Tim) (t : Tim) {i j : Nat} (hi : i < l.length + 1) (hj : j < 2) : (bif i.blt l.length then timCell l i j else [D.v (.int .i64 t.id), D.v (.int .i64 t.at_)].getD ((i - l.length) * 2 + j) (.v undef)) = timCell (l ++ [t]) i j := by
  by_cases h : i < l.length
  · rw [show i.blt l.length = true from Nat.ble_eq_true_of_le h]
    unfold timCell
    simp [List.getD, List.getElem?_append_left h]
  · obtain rfl : i = l.length := by omega
    have hb : l.length.blt l.length = false := by
      cases hb : l.length.blt l.length with
      | false => rfl
      | true => exact absurd (Nat.le_of_ble_eq_true hb) (by omega)
    rw [hb, Nat.sub_self]
    match j, hj with
    | 0, _ => simp [timCell]
    | 1, _ => simp [timCell]
theorem posL_pop {l : List Tim} {t : Tim} {ks : List Int} (h : okW ⟨l ++ [t], ks⟩) : posL ⟨l, ks.erase t.id⟩ = mdel (posL ⟨l ++ [t], ks⟩) (midx ks t.id) := by
  unfold posL
  rw [mdel_map]
  refine List.map_congr_left fun x hx => (posI_app ?_).symm
  have hnd : ks.Nodup := h.2.1.nodup_iff.2 h.1
  have h1 : x ∈ ks := List.mem_of_mem_erase hx
  have h2 := h.2.1.mem_iff.1 h1
  simp only [List.map_append, List.map_cons, List.map_nil, List.mem_append, List.mem_singleton] at h2
  rcases h2 with h2 | h2
  · exact h2
  · exact absurd hx (by rw [h2]; exact fun e => ((List.Nodup.mem_erase_iff hnd).1 e).1 rfl)
theorem timCell_less (l : List Tim) (t : Tim) {i j : Nat} (hi : i < l.length) : timCell (l ++ [t]) i j = timCell l i j := by
  unfold timCell
  simp [List.getD, List.getElem?_append_left hi]
noncomputable def code291 : Code := match Try.f291.body with | some c => c | none => .skip
set_option maxHeartbeats 4000000 in
theorem vc291 : ∀ (w : Whl), w.l.length ≤ (4096 : Nat) → (w.l.length = (timsOf (D.recs (2 : Nat) w.l.length (timCell w.l))).length ∧ ∀ (i : Nat), i < w.l.length → ∀ (j : Nat), j < (2 : Nat) →
  timCell w.l i j = timCell (timsOf (D.recs (2 : Nat) w.l.length (timCell w.l))) i j) ∧ w.ks = w.ks ∧ posL w = posL (Whl.mk (timsOf (D.recs (2 : Nat) w.l.length (timCell w.l))) w.ks) ∧
  (↑w.l.length : Int) = (↑(timsOf (D.recs (2 : Nat) w.l.length (timCell w.l))).length : Int) ∧ (!(Nat.beq (0 : Nat) (2 : Nat) || (Nat.beq (1 : Nat) (2 : Nat) || false)) && (!(Nat.beq (1 : Nat) (0 : Nat) || false) && (!false && true)) && true) = true := by
  simp only [↓Bool.and_eq_true, ↓Bool.not_eq_true', and_true, implies_true, Bool.or_false, Nat.beq, timsOf_cell]
set_option maxRecDepth 100000 in
theorem ok291 : FnIs Try.prog 291 wLenC := by
  refine fnIs (C := (ctrs c0)) (by kernel_rfl) c0_ok Try.func291 (code := code291) (by kernel_rfl) (by kernel_rfl) ?_
  rintro a ⟨w, rfl, h⟩
  exact ⟨anns [], kcast (vc291 w h) (by kernel_rfl)⟩

noncomputable def code294 : Code := match Try.f294.body with | some c => c | none => .skip
set_option maxHeartbeats 4000000 in
theorem vc294 : ∀ (w : Whl) (t : Tim), okW w → w.l.length < (4096 : Nat) → ¬t.id ∈ w.ks → (((True ∧ (w.l.length + (1 : Nat)) * Try.prog.types[(99 : Nat)].bytes ≤ (140737488355328 : Nat) ∧
  ((w.l.length + (1 : Nat) = (timsOf (D.recs (2 : Nat) w.l.length (timCell w.l)) ++ [t]).length ∧ ∀ (i : Nat), i < w.l.length + (1 : Nat) → ∀ (j : Nat), j < (2 : Nat) →
  (bif i.blt w.l.length then timCell w.l i j else [D.v (Value.int IntKind.i64 t.id), D.v (Value.int IntKind.i64 t.at_)].getD ((i - w.l.length) * Try.prog.types[(99 : Nat)].size + j) (D.v undef)) = timCell (timsOf (D.recs (2 : Nat) w.l.length (timCell w.l)) ++ [t]) i j) ∧
  mputK w.ks (midx w.ks t.id) t.id = w.ks ++ [t.id] ∧ mputV (posL w) (midx w.ks t.id) (↑w.l.length : Int) = posL (Whl.mk (timsOf (D.recs (2 : Nat) w.l.length (timCell w.l)) ++ [t]) (w.ks ++ [t.id])) ∧
  (!(Nat.beq (5 : Nat) (2 : Nat) || (Nat.beq (1 : Nat) (2 : Nat) || false)) && (!(Nat.beq (1 : Nat) (5 : Nat) || false) && (!false && true)) && true) = true) ∧
  True) ∧ True) ∧ True) ∧ True := by
  simp only [↓Bool.and_eq_true, ↓Bool.not_eq_true', true_and, and_true, Bool.or_false, Nat.beq, Nat.zero_add, List.length_cons, List.length_nil, List.length_append, timsOf_cell]
  intro w t h hl hn
  rw [wmidx_none hn, bytes99, size99]
  refine ⟨by omega, fun i hi j hj => timCell_app w.l t hi hj, rfl, ?_⟩
  exact (posL_push h hn).symm
set_option maxRecDepth 100000 in
theorem ok294 : FnIs Try.prog 294 wPushC := by
  refine fnIs (C := (ctrs c0)) (by kernel_rfl) c0_ok Try.func294 (code := code294) (by kernel_rfl) (by kernel_rfl) ?_
  rintro a ⟨w, t, rfl, h, hl, hn⟩
  exact ⟨anns [], kcast (vc294 w t h hl hn) (by kernel_rfl)⟩

noncomputable def code293 : Code := match Try.f293.body with | some c => c | none => .skip
set_option maxHeartbeats 4000000 in
theorem vc293 : ∀ (w : Whl), okW w → (0 : Nat) < w.l.length → True ∧ ((0 : Int) ≤ IntKind.i64.wrap ((↑w.l.length : Int) - (1 : Int)) ∧ IntKind.i64.wrap ((↑w.l.length : Int) - (1 : Int)) < (↑w.l.length : Int)) ∧
  sw (decide (IntKind.i64.wrap ((↑w.l.length : Int) - (1 : Int)) = (0 : Int))) ((((0 : Nat) = (timsOf (D.recs (2 : Nat) w.l.length (timCell w.l))).dropLast.length ∧
  ∀ (i : Nat), i < (0 : Nat) → ∀ (j : Nat), j < (2 : Nat) → timCell w.l i j = timCell (timsOf (D.recs (2 : Nat) w.l.length (timCell w.l))).dropLast i j) ∧
  mdel w.ks (midx w.ks (w.l.getD (IntKind.i64.wrap ((↑w.l.length : Int) - (1 : Int))).toNat noTim).id) = w.ks.erase (tf (timsOf (D.recs (2 : Nat) w.l.length (timCell w.l))) ((timsOf (D.recs (2 : Nat) w.l.length (timCell w.l))).length - (1 : Nat))).id ∧
  mdel (posL w) (midx w.ks (w.l.getD (IntKind.i64.wrap ((↑w.l.length : Int) - (1 : Int))).toNat noTim).id) = posL (Whl.mk (timsOf (D.recs (2 : Nat) w.l.length (timCell w.l))).dropLast (w.ks.erase (tf (timsOf (D.recs (2 : Nat) w.l.length (timCell w.l))) ((timsOf (D.recs (2 : Nat) w.l.length (timCell w.l))).length - (1 : Nat))).id)) ∧
  (w.l.getD (IntKind.i64.wrap ((↑w.l.length : Int) - (1 : Int))).toNat noTim).id = (tf (timsOf (D.recs (2 : Nat) w.l.length (timCell w.l))) ((timsOf (D.recs (2 : Nat) w.l.length (timCell w.l))).length - (1 : Nat))).id ∧
  (w.l.getD (IntKind.i64.wrap ((↑w.l.length : Int) - (1 : Int))).toNat noTim).at_ = (tf (timsOf (D.recs (2 : Nat) w.l.length (timCell w.l))) ((timsOf (D.recs (2 : Nat) w.l.length (timCell w.l))).length - (1 : Nat))).at_ ∧
  (!(Nat.beq (4 : Nat) (2 : Nat) || (Nat.beq (1 : Nat) (2 : Nat) || false)) && (!(Nat.beq (1 : Nat) (4 : Nat) || false) && (!false && true)) && true) = true) ∧
  True ∨ ((0 : Int) ≤ IntKind.i64.wrap ((↑w.l.length : Int) - (1 : Int)) ∧ IntKind.i64.wrap ((↑w.l.length : Int) - (1 : Int)) ≤ (↑w.l.length : Int)) ∧ False ∧
  True) (((0 : Int) < IntKind.i64.wrap ((↑w.l.length : Int) - (1 : Int)) ∧ IntKind.i64.wrap ((↑w.l.length : Int) - (1 : Int)) ≤ (↑w.l.length : Int)) ∧ (((IntKind.i64.wrap ((↑w.l.length : Int) - (1 : Int))).toNat = (timsOf (D.recs (2 : Nat) w.l.length (timCell w.l))).dropLast.length ∧
  ∀ (i : Nat), i < (IntKind.i64.wrap ((↑w.l.length : Int) - (1 : Int))).toNat → ∀ (j : Nat), j < (2 : Nat) → timCell w.l i j = timCell (timsOf (D.recs (2 : Nat) w.l.length (timCell w.l))).dropLast i j) ∧
  mdel w.ks (midx w.ks (w.l.getD (IntKind.i64.wrap ((↑w.l.length : Int) - (1 : Int))).toNat noTim).id) = w.ks.erase (tf (timsOf (D.recs (2 : Nat) w.l.length (timCell w.l))) ((timsOf (D.recs (2 : Nat) w.l.length (timCell w.l))).length - (1 : Nat))).id ∧
  mdel (posL w) (midx w.ks (w.l.getD (IntKind.i64.wrap ((↑w.l.length : Int) - (1 : Int))).toNat noTim).id) = posL (Whl.mk (timsOf (D.recs (2 : Nat) w.l.length (timCell w.l))).dropLast (w.ks.erase (tf (timsOf (D.recs (2 : Nat) w.l.length (timCell w.l))) ((timsOf (D.recs (2 : Nat) w.l.length (timCell w.l))).length - (1 : Nat))).id)) ∧
  (w.l.getD (IntKind.i64.wrap ((↑w.l.length : Int) - (1 : Int))).toNat noTim).id = (tf (timsOf (D.recs (2 : Nat) w.l.length (timCell w.l))) ((timsOf (D.recs (2 : Nat) w.l.length (timCell w.l))).length - (1 : Nat))).id ∧
  (w.l.getD (IntKind.i64.wrap ((↑w.l.length : Int) - (1 : Int))).toNat noTim).at_ = (tf (timsOf (D.recs (2 : Nat) w.l.length (timCell w.l))) ((timsOf (D.recs (2 : Nat) w.l.length (timCell w.l))).length - (1 : Nat))).at_ ∧
  (!(Nat.beq (4 : Nat) (2 : Nat) || (Nat.beq (1 : Nat) (2 : Nat) || false)) && (!(Nat.beq (1 : Nat) (4 : Nat) || false) && (!false && true)) && true) = true) ∧
  True ∨ ((0 : Int) ≤ IntKind.i64.wrap ((↑w.l.length : Int) - (1 : Int)) ∧ IntKind.i64.wrap ((↑w.l.length : Int) - (1 : Int)) ≤ (↑w.l.length : Int)) ∧ False ∧
  True) := by
  simp only [↓sw_iff, ↓Bool.and_eq_true, ↓decide_eq_true_eq, ↓decide_eq_false_iff_not, ↓Bool.not_eq_true', true_and, and_true, Bool.or_false, Nat.beq, timsOf_cell]
  intro w h h0
  obtain ⟨l, ks⟩ := w
  simp only at h h0 ⊢
  have hw : IntKind.i64.wrap ((l.length : Int) - 1) = (l.length : Int) - 1 := wrap_i64_id (by omega) (by have := h.2.2; simp only at this; omega)
  rw [hw]
  rcases List.eq_nil_or_concat l with rfl | ⟨l', t, rfl⟩
  · simp at h0
  have e1 : ((l' ++ [t]).length : Int) - 1 = (l'.length : Int) := by simp
  have e2 : (l' ++ [t]).length - 1 = l'.length := by simp
  have e3 : (l' ++ [t]).getD l'.length noTim = t := by simp [List.getD]
  rw [List.concat_eq_append] at *
  rw [e1, e2]
  simp only [Int.toNat_natCast, List.dropLast_concat, tf, e3, mdel_ks]
  have hp := (posL_pop h).symm
  have hc := fun (i : Nat) (hi : i < l'.length) (j : Nat) (_ : j < 2) => timCell_less l' t (j := j) hi
  refine ⟨⟨by omega, by simp; omega⟩, fun hz => .inl ⟨⟨by omega, fun i hi => absurd hi (by omega)⟩, trivial, hp, trivial, trivial⟩, fun hz => .inl ⟨⟨by omega, by simp; omega⟩, ⟨trivial, hc⟩, trivial, hp, trivial, trivial⟩⟩
set_option maxRecDepth 100000 in
theorem ok293 : FnIs Try.prog 293 wPopC := by
  refine fnIs (C := (ctrs c0)) (by kernel_rfl) c0_ok Try.func293 (code := code293) (by kernel_rfl) (by kernel_rfl) ?_
  rintro a ⟨w, rfl, h, h0⟩
  exact ⟨anns [], kcast (vc293 w h h0) (by kernel_rfl)⟩

noncomputable def iW3c183 : Code := match Try.f183.body with | some c => c | none => .skip
noncomputable def iW3_183 : InlF := ⟨iW3c183, Try.f183.ntmps, Try.f183.results.toList, anns []⟩
noncomputable def iW3 : List (Nat × InlF) := [(183, iW3_183)]
theorem iW3_ok : InlsOk Try.prog iW3 := ⟨inlOk Try.func183 (by kernel_rfl) (by kernel_rfl), trivial⟩
noncomputable def code139 : Code := match Try.f139.body with | some c => c | none => .skip
set_option maxHeartbeats 4000000 in
theorem vc139 : ∀ (s t : Int), True ∧ True ∧ sw (!decide (s = s)) (sw (!decide (t = t)) ((0 : Int) = cmpI s t ∧ (true && true) = true) ((-1 : Int) = cmpI s t ∧ (true && true) = true)) (sw (!decide (t = t)) ((1 : Int) = cmpI s t ∧
  (true && true) = true) (True ∧ sw (decide (s < t)) ((-1 : Int) = cmpI s t ∧ (true && true) = true) (True ∧ sw (decide (t < s)) ((1 : Int) = cmpI s t ∧ (true && true) = true) ((0 : Int) = cmpI s t ∧
  (true && true) = true)))) := by
  simp only [↓sw_iff, ↓Bool.and_eq_true, ↓decide_eq_true_eq, ↓decide_eq_false_iff_not, ↓Bool.not_eq_true', ↓Bool.not_eq_false', true_and, and_true]
  intro s t
  unfold cmpI
  by_cases h1 : s < t <;> by_cases h2 : t < s <;> simp [h1, h2]
set_option maxRecDepth 100000 in
theorem ok139 : FnIs Try.prog 139 cmpC := by
  refine fnIs (C := (ctrsJ Try.prog c0 iW3 2)) (by kernel_rfl) (cokJ (by kernel_rfl) c0_ok iW3_ok) Try.func139 (code := code139) (by kernel_rfl) (by kernel_rfl) ?_
  rintro a ⟨s, t, rfl⟩
  exact ⟨anns [], kcast (vc139 s t) (by kernel_rfl)⟩

end Go.ZR

namespace Go.ZR
open Go.Z Go.ZM Go.Proofs
def w1 : List (Nat × Ctr) := [(139, cmpC)]
theorem w1_ok : COk Try.prog (ctrs w1) := cok_cons ok139 cok_nil
def w2 : List (Nat × Ctr) := [(99, ordC)]
end Go.ZR

namespace Go.ZR
open Go.Proofs
open Go.Z Go.ZM Go.RowKit
set_option maxRecDepth 100000
noncomputable def iW5c138 : Code := match Try.f138.body with | some c => c | none => .skip
noncomputable def iW5_138 : InlF := ⟨iW5c138, Try.f138.ntmps, Try.f138.results.toList, anns [] [] [(3, 3)]⟩
noncomputable def iW5 : List (Nat × InlF) := [(138, iW5_138)]
theorem iW5_ok : InlsOk Try.prog iW5 := ⟨inlOk Try.func138 (by kernel_rfl) (by kernel_rfl), trivial⟩
noncomputable def code99 : Code := match Try.f99.body with | some c => c | none => .skip
set_option maxHeartbeats 4000000 in
theorem vc99 : ∀ (s t : Tim), ((∃ (s_1 : Int), ∃ (t_1 : Int), [O.d (D.v (Value.int IntKind.i64 s.at_)), O.d (D.v (Value.int IntKind.i64 t.at_))] = [O.d (D.v (Value.int IntKind.i64 s_1)), O.d (D.v (Value.int IntKind.i64 t_1))]) ∧
  ((∃ (s_1 : Int), ∃ (t_1 : Int), [O.d (D.v (Value.int IntKind.i64 s.id)), O.d (D.v (Value.int IntKind.i64 t.id))] = [O.d (D.v (Value.int IntKind.i64 s_1)), O.d (D.v (Value.int IntKind.i64 t_1))]) ∧
  ((True ∧ ((0 : Int) ≤ (0 : Int) ∧ (0 : Int) < (↑[cmpI s.at_ t.at_, cmpI s.id t.id].length : Int)) ∧ True ∧ sw (!decide ([cmpI s.at_ t.at_, cmpI s.id t.id].getD (Int.toNat (0 : Int)) (0 : Int) = (0 : Int))) ([cmpI s.at_ t.at_, cmpI s.id t.id].getD (Int.toNat (0 : Int)) (0 : Int) = ordF s t ∧
  (true && true) = true) (True ∧ True ∧ ((0 : Int) ≤ IntKind.i64.wrap ((0 : Int) + (1 : Int)) ∧ IntKind.i64.wrap ((0 : Int) + (1 : Int)) < (↑[cmpI s.at_ t.at_, cmpI s.id t.id].length : Int)) ∧
  True ∧ sw (!decide ([cmpI s.at_ t.at_, cmpI s.id t.id].getD (IntKind.i64.wrap ((0 : Int) + (1 : Int))).toNat (0 : Int) = (0 : Int))) ([cmpI s.at_ t.at_, cmpI s.id t.id].getD (IntKind.i64.wrap ((0 : Int) + (1 : Int))).toNat (0 : Int) = ordF s t ∧
  (true && true) = true) (True ∧ True ∧ (0 : Int) = ordF s t ∧ (true && true) = true))) ∧ True) ∧ True) ∧ True) ∧ True := by
  simp only [↓sw_iff, ↓Bool.and_eq_true, ↓decide_eq_true_eq, ↓decide_eq_false_iff_not, ↓Bool.not_eq_true', ↓Bool.not_eq_false', true_and, and_true, Nat.zero_add, List.length_cons, List.length_nil]
  intro s t
  have w : IntKind.i64.wrap ((0 : Int) + 1) = 1 := rfl
  simp only [w]
  refine ⟨⟨_, _, rfl⟩, ⟨_, _, rfl⟩, by decide, fun h => ?_, fun h => ⟨by decide, fun _ => ?_, fun h2 => ?_⟩⟩
  · exact (if_pos (show cmpI s.at_ t.at_ ≠ 0 from h)).symm
  · exact (if_neg (show ¬ cmpI s.at_ t.at_ ≠ 0 from fun e => e h)).symm
  · exact (show cmpI s.id t.id = 0 from h2).symm.trans (if_neg (show ¬ cmpI s.at_ t.at_ ≠ 0 from fun e => e h)).symm
set_option maxRecDepth 100000 in
theorem ok99 : FnIs Try.prog 99 ordC := by
  refine fnIs (C := (ctrsJ Try.prog w1 iW5 2)) (by kernel_rfl) (cokJ (by kernel_rfl) w1_ok iW5_ok) Try.func99 (code := code99) (by kernel_rfl) (by kernel_rfl) ?_
  rintro a ⟨s, t, rfl⟩
  exact ⟨anns [], kcast (vc99 s t) (by kernel_rfl)⟩

theorem w2_ok : COk Try.prog (ctrs w2) := cok_cons ok99 cok_nil
theorem ordF_lt (a b : Tim) : decide (ordF a b < 0) = ltT a b := by
  rw [Bool.eq_iff_iff, decide_eq_true_eq, ltT_iff]
  unfold ordF cmpI
  split <;> (repeat' split) <;> (try split at *) <;> omega

noncomputable def code292 : Code := match Try.f292.body with | some c => c | none => .skip
set_option maxHeartbeats 4000000 in
theorem vc292 : ∀ (w : Whl) (i j : Nat), w.l.length ≤ (4096 : Nat) → i < w.l.length → j < w.l.length → ((0 : Int) ≤ (↑i : Int) ∧ (↑i : Int) < (↑w.l.length : Int)) ∧ ((0 : Int) ≤ (↑j : Int) ∧
  (↑j : Int) < (↑w.l.length : Int)) ∧ (∃ (s : Tim), ∃ (t : Tim), [O.agg [O.d (D.v (Value.int IntKind.i64 (w.l.getD (↑i : Int).toNat noTim).id)), O.d (D.v (Value.int IntKind.i64 (w.l.getD (↑i : Int).toNat noTim).at_))], O.agg [O.d (D.v (Value.int IntKind.i64 (w.l.getD (↑j : Int).toNat noTim).id)), O.d (D.v (Value.int IntKind.i64 (w.l.getD (↑j : Int).toNat noTim).at_))]] = [O.agg [O.d (D.v (Value.int IntKind.i64 s.id)), O.d (D.v (Value.int IntKind.i64 s.at_))], O.agg [O.d (D.v (Value.int IntKind.i64 t.id)), O.d (D.v (Value.int IntKind.i64 t.at_))]]) ∧
  True ∧ (w.l.length = (timsOf (D.recs (2 : Nat) w.l.length (timCell w.l))).length ∧ ∀ (i_1 : Nat), i_1 < w.l.length → ∀ (j_1 : Nat), j_1 < (2 : Nat) → timCell w.l i_1 j_1 = timCell (timsOf (D.recs (2 : Nat) w.l.length (timCell w.l))) i_1 j_1) ∧
  w.ks = w.ks ∧ posL w = posL (Whl.mk (timsOf (D.recs (2 : Nat) w.l.length (timCell w.l))) w.ks) ∧ decide (ordF (w.l.getD (↑i : Int).toNat noTim) (w.l.getD (↑j : Int).toNat noTim) < (0 : Int)) = ltT (tf (timsOf (D.recs (2 : Nat) w.l.length (timCell w.l))) (↑i : Int).toNat) (tf (timsOf (D.recs (2 : Nat) w.l.length (timCell w.l))) (↑j : Int).toNat) ∧
  (!(Nat.beq (0 : Nat) (2 : Nat) || (Nat.beq (1 : Nat) (2 : Nat) || false)) && (!(Nat.beq (1 : Nat) (0 : Nat) || false) && (!false && true)) && true) = true := by
  simp only [↓Bool.and_eq_true, ↓Bool.not_eq_true', true_and, and_true, implies_true, Bool.or_false, Nat.beq, Int.toNat_natCast, timsOf_cell, Int.toNat_natCast]
  intro w i j hl hi hj
  exact ⟨by omega, by omega, ⟨tf w.l i, tf w.l j, rfl⟩, ordF_lt _ _⟩
set_option maxRecDepth 100000 in
theorem ok292 : FnIs Try.prog 292 wLessC := by
  refine fnIs (C := (ctrs w2)) (by kernel_rfl) w2_ok Try.func292 (code := code292) (by kernel_rfl) (by kernel_rfl) ?_
  rintro a ⟨w, i, j, rfl, h, hi, hj⟩
  exact ⟨anns [], kcast (vc292 w i j h hi hj) (by kernel_rfl)⟩

end Go.ZR

set_option maxRecDepth 100000
namespace Go.ZR
open Go.Z Go.ZM
theorem posI_at {l : List Tim} (hn : (l.map Tim.id).Nodup) {k : Nat} (hk : k < l.length) : posI l (tf l k).id = k := by
  have e : tf l k = l[k] := by simp [tf, List.getD, hk]
  rw [e]
  unfold posI
  have h : l.findIdx (fun t => t.id == l[k].id) = k := by
    rw [List.findIdx_eq hk]
    refine ⟨by simp, fun j hj => ?_⟩
    simp only [beq_eq_false_iff_ne]
    intro e
    have hj' : j < l.length := by omega
    have h1 : (l.map Tim.id)[j]? = (l.map Tim.id)[k]? := by
      rw [List.getElem?_map, List.getElem?_map, List.getElem?_eq_getElem hj', List.getElem?_eq_getElem hk]
      simpa using e
    have := (List.getElem?_inj (by simpa using hj') hn).1 h1
    omega
  rw [h]
theorem swpL_len (l : List Tim) (i j : Nat) : (swpL l i j).length = l.length := fl_len _ _
theorem tf_swpL {l : List Tim} {i j k : Nat} (hk : k < l.length) : tf (swpL l i j) k = swp (tf l) i j k := tf_fl hk
theorem swpL_perm {l : List Tim} {i j : Nat} (hi : i < l.length) (hj : j < l.length) : (swpL l i j).Perm l := by
  have h := swp_perm (tf l) hi hj
  exact h.trans (.of_eq (fl_tf l))
theorem swpL_ok {w : Whl} {i j : Nat} (h : okW w) (hi : i < w.l.length) (hj : j < w.l.length) : okW ⟨swpL w.l i j, w.ks⟩ := by
  have hp := (swpL_perm hi hj).map Tim.id
  exact ⟨hp.nodup_iff.2 h.1, h.2.1.trans hp.symm, by rw [swpL_len]; exact h.2.2⟩
theorem mput_map (g : Int → Int) (v : Int) : ∀ {ks : List Int} {x : Int}, ks.Nodup → x ∈ ks → mputV (ks.map g) (midx ks x) v = ks.map fun y => if y = x then v else g y
  | [], _, _, hx => absurd hx (by simp)
  | k :: ks, x, hn, hx => by
    unfold midx
    have hn' := List.nodup_cons.1 hn
    by_cases e : x = k
    · subst e
      rw [if_pos rfl]
      have h2 : ks.map g = ks.map fun y => if y = x then v else g y := List.map_congr_left fun y hy => by
        rw [if_neg (show ¬ y = x from fun e => hn'.1 (e ▸ hy))]
      simp only [List.map_cons, mputV, List.set_cons_zero, if_true, ← h2]
    · rw [if_neg e]
      have hx' : x ∈ ks := (List.mem_cons.1 hx).resolve_left e
      have ih := mput_map g v hn'.2 hx'
      cases hm : midx ks x with
      | none => exact absurd hx' (by
          intro h
          have : ∀ {ks : List Int} {x : Int}, midx ks x = none → x ∉ ks := by
            intro ks
            induction ks with
            | nil => intro x _ h; simp at h
            | cons a l ihl =>
              intro x h hx
              unfold midx at h
              split at h
              · cases h
              · rename_i hne
                split at h
                · cases h
                · rename_i hm'
                  exact ihl hm' ((List.mem_cons.1 hx).resolve_left hne)
          exact this hm h)
      | some j =>
        rw [hm] at ih
        simp only [mputV] at ih
        simp only [List.map_cons, mputV, List.set_cons_succ, ih, if_neg (Ne.symm e)]
theorem posL_swap {w : Whl} {i j : Nat} (h : okW w) (hi : i < w.l.length) (hj : j < w.l.length) :
    mputV (mputV (posL w) (midx w.ks (tf w.l j).id) (i : Int)) (midx w.ks (tf w.l i).id) (j : Int) = posL ⟨swpL w.l i j, w.ks⟩ := by
  have hnd : w.ks.Nodup := h.2.1.nodup_iff.2 h.1
  have mem {k : Nat} (hk : k < w.l.length) : (tf w.l k).id ∈ w.ks := h.2.1.mem_iff.2 (List.mem_map.2 ⟨tf w.l k, by simp [tf, List.getD, hk], rfl⟩)
  unfold posL
  rw [mput_map _ _ hnd (mem hj), mput_map _ _ hnd (mem hi)]
  refine List.map_congr_left fun x hx => ?_
  obtain ⟨t, ht, rfl⟩ := List.mem_map.1 (h.2.1.mem_iff.1 hx)
  obtain ⟨m, hm, rfl⟩ := List.getElem_of_mem ht
  have em : w.l[m] = tf w.l m := by simp [tf, List.getD, hm]
  rw [em]
  have hs := (swpL_ok h hi hj).1
  have at_ {k : Nat} (hk : k < w.l.length) : posI (swpL w.l i j) (swp (tf w.l) i j k).id = k := by
    have := posI_at (l := swpL w.l i j) hs (k := k) (by rw [swpL_len]; exact hk)
    rw [tf_swpL hk] at this
    exact this
  have inj {a b : Nat} (ha : a < w.l.length) (hb : b < w.l.length) (e : (tf w.l a).id = (tf w.l b).id) : a = b := by
    have h1 := posI_at h.1 ha
    have h2 := posI_at h.1 hb
    rw [e, h2] at h1
    omega
  by_cases e1 : m = i
  · subst e1
    have := at_ hj
    rw [swp_j] at this
    rw [if_pos rfl, this]
  · rw [if_neg (fun e => e1 (inj hm hi e))]
    by_cases e2 : m = j
    · subst e2
      have := at_ hi
      rw [swp_i] at this
      rw [if_pos rfl, this]
    · rw [if_neg (fun e => e2 (inj hm hj e))]
      have := at_ hm
      rw [swp_o e1 e2] at this
      rw [this, posI_at h.1 hm]
end Go.ZR

namespace Go.ZR
open Go.Proofs
open Go.Z Go.ZM Go.RowKit
set_option maxRecDepth 100000
theorem midx_in {x : Int} : ∀ {ks : List Int}, x ∈ ks → (midx ks x).isSome = true := by
  intro ks h
  cases hm : midx ks x with
  | some _ => rfl
  | none =>
    exfalso
    have : ∀ {ks : List Int}, midx ks x = none → x ∉ ks := by
      intro ks
      induction ks with
      | nil => intro _ h; simp at h
      | cons a l ihl =>
        intro h hx
        unfold midx at h
        split at h
        · cases h
        · rename_i hne
          split at h
          · cases h
          · rename_i hm'
            exact ihl hm' ((List.mem_cons.1 hx).resolve_left hne)
    exact this hm h
theorem beq_ne {i j : Nat} (h : i ≠ j) : i.beq j = false := by
  cases hb : i.beq j with
  | false => rfl
  | true => exact absurd (Nat.eq_of_beq_eq_true hb) h
theorem tf_ks {w : Whl} (h : okW w) {k : Nat} (hk : k < w.l.length) : (tf w.l k).id ∈ w.ks := h.2.1.mem_iff.2 (List.mem_map.2 ⟨tf w.l k, by simp [tf, List.getD, hk], rfl⟩)
theorem timCell_swap {l : List Tim} {i j i1 j3 : Nat} (h1 : i1 < l.length) (h3 : j3 < 2) :
    setRecM (setRecM (timCell l) i 0 [D.v (Value.int IntKind.i64 (l.getD j noTim).id), D.v (Value.int IntKind.i64 (l.getD j noTim).at_)]) j 0 [D.v (Value.int IntKind.i64 (l.getD i noTim).id), D.v (Value.int IntKind.i64 (l.getD i noTim).at_)] i1 j3 = timCell (swpL l i j) i1 j3 := by
  have e : (swpL l i j).getD i1 noTim = swp (tf l) i j i1 := tf_swpL h1
  rw [setRecM_eq, setRecM_eq]
  have cell : ∀ (l : List Tim) (k : Nat), timCell l k 0 = .v (.int .i64 (l.getD k noTim).id) ∧ timCell l k 1 = .v (.int .i64 (l.getD k noTim).at_) := fun _ _ => ⟨rfl, rfl⟩
  have sw : swp (tf l) i j i1 = if i1 = j then l.getD i noTim else if i1 = i then l.getD j noTim else l.getD i1 noTim := by
    unfold swp tf
    by_cases e1 : i1 = i
    · subst e1
      by_cases e2 : i1 = j
      · subst e2; simp
      · simp [e2]
    · simp [e1]
  have h3' : j3 = 0 ∨ j3 = 1 := by omega
  have b0 : Nat.ble 0 0 = true := rfl
  have b1 : Nat.ble 1 2 = true := rfl
  have b2 : Nat.ble 0 1 = true := rfl
  have b3 : Nat.ble 2 2 = true := rfl
  rcases h3' with rfl | rfl
  · rw [(cell (swpL l i j) i1).1, e, sw]
    unfold setRec
    by_cases e1 : i1 = j
    · subst e1
      simp [Nat.blt, b0, b1]
    · rw [beq_ne e1]
      by_cases e2 : i1 = i
      · subst e2
        simp [Nat.blt, b0, b1, e1]
      · rw [beq_ne e2]
        simp [(cell _ _).1, e1, e2]
  · rw [(cell (swpL l i j) i1).2, e, sw]
    unfold setRec
    by_cases e1 : i1 = j
    · subst e1
      simp [Nat.blt, b2, b3]
    · rw [beq_ne e1]
      by_cases e2 : i1 = i
      · subst e2
        simp [Nat.blt, b2, b3, e1]
      · rw [beq_ne e2]
        simp [(cell _ _).2, e1, e2]
noncomputable def code295 : Code := match Try.f295.body with | some c => c | none => .skip
set_option maxHeartbeats 4000000 in
theorem vc295 : ∀ (w : Whl) (i j : Nat), okW w → i < w.l.length → j < w.l.length → ((0 : Int) ≤ (↑j : Int) ∧ (↑j : Int) < (↑w.l.length : Int)) ∧ ((0 : Int) ≤ (↑i : Int) ∧
  (↑i : Int) < (↑w.l.length : Int)) ∧ ((0 : Int) ≤ (↑i : Int) ∧ (↑i : Int) < (↑w.l.length : Int)) ∧ (((0 : Int) ≤ (↑j : Int) ∧ (↑j : Int) < (↑w.l.length : Int)) ∧
  (((0 : Int) ≤ (↑i : Int) ∧ (↑i : Int) < (↑w.l.length : Int)) ∧ ((0 : Int) ≤ (↑j : Int) ∧ (↑j : Int) < (↑w.l.length : Int)) ∧ ((midx w.ks (bif (↑i : Int).toNat.beq (↑j : Int).toNat then (w.l.getD (↑i : Int).toNat noTim).id else bif (↑i : Int).toNat.beq (↑i : Int).toNat then (w.l.getD (↑j : Int).toNat noTim).id else (w.l.getD (↑i : Int).toNat noTim).id)).isSome = true ∧
  ∀ (j_1 : Nat) (z : Int), midx w.ks (bif (↑i : Int).toNat.beq (↑j : Int).toNat then (w.l.getD (↑i : Int).toNat noTim).id else bif (↑i : Int).toNat.beq (↑i : Int).toNat then (w.l.getD (↑j : Int).toNat noTim).id else (w.l.getD (↑i : Int).toNat noTim).id) = some j_1 →
  (z = z ∧ ((midx w.ks (bif (↑j : Int).toNat.beq (↑j : Int).toNat then (w.l.getD (↑i : Int).toNat noTim).id else bif (↑j : Int).toNat.beq (↑i : Int).toNat then (w.l.getD (↑j : Int).toNat noTim).id else (w.l.getD (↑j : Int).toNat noTim).id)).isSome = true ∧
  ∀ (j_2 : Nat) (z_1 : Int), midx w.ks (bif (↑j : Int).toNat.beq (↑j : Int).toNat then (w.l.getD (↑i : Int).toNat noTim).id else bif (↑j : Int).toNat.beq (↑i : Int).toNat then (w.l.getD (↑j : Int).toNat noTim).id else (w.l.getD (↑j : Int).toNat noTim).id) = some j_2 →
  (z_1 = z_1 ∧ (w.l.length = (swpL (timsOf (D.recs (2 : Nat) w.l.length (timCell w.l))) (↑i : Int).toNat (↑j : Int).toNat).length ∧ ∀ (i_1 : Nat), i_1 < w.l.length →
  ∀ (j_3 : Nat), j_3 < (2 : Nat) → setRecM (setRecM (timCell w.l) (↑i : Int).toNat (0 : Nat) [D.v (Value.int IntKind.i64 (w.l.getD (↑j : Int).toNat noTim).id), D.v (Value.int IntKind.i64 (w.l.getD (↑j : Int).toNat noTim).at_)]) (↑j : Int).toNat (0 : Nat) [D.v (Value.int IntKind.i64 (w.l.getD (↑i : Int).toNat noTim).id), D.v (Value.int IntKind.i64 (w.l.getD (↑i : Int).toNat noTim).at_)] i_1 j_3 = timCell (swpL (timsOf (D.recs (2 : Nat) w.l.length (timCell w.l))) (↑i : Int).toNat (↑j : Int).toNat) i_1 j_3) ∧
  w.ks = w.ks ∧ mputV (mputV (posL w) (some j_1) (↑i : Int)) (some j_2) (↑j : Int) = posL (Whl.mk (swpL (timsOf (D.recs (2 : Nat) w.l.length (timCell w.l))) (↑i : Int).toNat (↑j : Int).toNat) w.ks) ∧
  (!(Nat.beq (0 : Nat) (2 : Nat) || (Nat.beq (1 : Nat) (2 : Nat) || false)) && (!(Nat.beq (1 : Nat) (0 : Nat) || false) && (!false && true)) && true) = true ∨ False) ∧
  True) ∧ True ∨ False) ∧ True) ∧ True) ∧ True) ∧ True := by
  simp only [↓Bool.and_eq_true, ↓Bool.not_eq_true', true_and, and_true, Bool.or_false, Nat.beq, Int.toNat_natCast, timsOf_cell, Int.toNat_natCast]
  intro w i j h hi hj
  have k1 : (bif i.beq j then (w.l.getD i noTim).id else bif i.beq i then (w.l.getD j noTim).id else (w.l.getD i noTim).id) = (tf w.l j).id := by
    by_cases e : i = j
    · subst e; simp [tf]
    · rw [beq_ne e]; simp [tf]
  have k2 : (bif j.beq j then (w.l.getD i noTim).id else bif j.beq i then (w.l.getD j noTim).id else (w.l.getD j noTim).id) = (tf w.l i).id := by simp [tf]
  rw [k1, k2]
  refine ⟨⟨by omega, by omega⟩, ⟨by omega, by omega⟩, ⟨by omega, by omega⟩, ⟨by omega, by omega⟩, ⟨by omega, by omega⟩, ⟨by omega, by omega⟩, midx_in (tf_ks h hj), fun a _ ha => .inl ⟨midx_in (tf_ks h hi), fun b _ hb => .inl ⟨⟨(swpL_len _ _ _).symm, fun _ h1 _ h3 => timCell_swap h1 h3⟩, ?_⟩⟩⟩
  rw [← ha, ← hb]
  exact posL_swap h hi hj
set_option maxRecDepth 100000 in
theorem ok295 : FnIs Try.prog 295 wSwapC := by
  refine fnIs (C := (ctrs c0)) (by kernel_rfl) c0_ok Try.func295 (code := code295) (by kernel_rfl) (by kernel_rfl) ?_
  rintro a ⟨w, i, j, rfl, h, hi, hj⟩
  exact ⟨anns [], kcast (vc295 w i j h hi hj) (by kernel_rfl)⟩

end Go.ZR

set_option maxRecDepth 100000
namespace Go.ZM
open Go.Z Go.ZR
def upT (l : List Tim) (j : Nat) : List Tim := fl (upF l.length (tf l) j) l.length
def downT (l : List Tim) (i n : Nat) : List Tim × Nat := (fl (downF n (tf l) i n).1 l.length, (downF n (tf l) i n).2)
end Go.ZM
namespace Go.ZR
open Go.Z Go.ZM Go.Proofs
def w3 : List (Nat × Ctr) := [(291, wLenC), (292, wLessC), (293, wPopC), (294, wPushC), (295, wSwapC)]
def hpC (n : Nat) (pre : List O → Prop) (f : List O → Whl) (res : List O → List O) : Ctr where
  own := true :: List.replicate n false
  pre := pre
  res := res
  upd := fun a => whI (f a) :: List.replicate n .any
  ro := true
  quiet := false
def upC : Ctr := hpC 1 (fun a => ∃ (w : Whl) (j : Nat), a = [whI w, iO .i64 (j : Int)] ∧ okW w ∧ j < w.l.length) (fun a => ⟨upT (whA a).l (inA a 1), (whA a).ks⟩) fun _ => []
def downC : Ctr := hpC 2 (fun a => ∃ (w : Whl) (i n : Nat), a = [whI w, iO .i64 (i : Int), iO .i64 (n : Int)] ∧ okW w ∧ i < w.l.length ∧ n ≤ w.l.length) (fun a => ⟨(downT (whA a).l (inA a 1) (inA a 2)).1, (whA a).ks⟩) fun a => [bO (decide (inA a 1 < (downT (whA a).l (inA a 1) (inA a 2)).2))]
def whB (l : List Tim) (ks : List Int) : List OI := [.o (.own 99 (.recs 2 l.length (timCell l))), .o (.map (.ints .i64 ks) (.ints .i64 (posL ⟨l, ks⟩)))]
def upA (w : Whl) (j0 : Nat) : LoopAnn where
  γ := Nat × List Tim
  pre := fun g => okW ⟨g.2, w.ks⟩ ∧ g.1 < g.2.length ∧ upT g.2 g.1 = upT w.l j0
  μ := fun g => g.1
  items := fun g => [(1, .c (iO .i64 (g.1 : Int))), (0, .blk (whB g.2 w.ks))]
def downA (w : Whl) (i0 n : Nat) : LoopAnn where
  γ := Nat × List Tim
  pre := fun g => okW ⟨g.2, w.ks⟩ ∧ g.1 < g.2.length ∧ n ≤ g.2.length ∧ i0 ≤ g.1 ∧ downT g.2 g.1 n = downT w.l i0 n
  μ := fun g => w.l.length - g.1
  items := fun g => [(7, .c (iO .i64 (g.1 : Int))), (0, .blk (whB g.2 w.ks))]
end Go.ZR
