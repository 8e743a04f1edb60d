/- Part 18 of what the closing text rests on. -/
import Derived.Test.YtlbfenfepmmihaaU17
set_option maxRecDepth 100000
namespace Go.ZM
open Go.Z Go.ZR
structure Rep (w : Whl) (S : List Tim) : Prop where
  ok : okW w
  hp : hpL w.l
  perm : w.l.Perm S
theorem hpL_nil : hpL [] := fun k _ hk => absurd hk (by simp)
theorem Rep.new : Rep noW [] := ⟨⟨.nil, .refl _, by simp [noW]⟩, hpL_nil, .refl _⟩
theorem Rep.ks {w : Whl} {S : List Tim} (h : Rep w S) : w.ks.Perm (S.map Tim.id) := h.ok.2.1.trans (h.perm.map _)
theorem Rep.nodup {w : Whl} {S : List Tim} (h : Rep w S) : (S.map Tim.id).Nodup := (h.perm.map _).nodup_iff.1 h.ok.1
theorem Rep.len {w : Whl} {S : List Tim} (h : Rep w S) : w.l.length = S.length := h.perm.length_eq
theorem Rep.le {w : Whl} {S : List Tim} (h : Rep w S) : S.length ≤ 4096 := by rw [← h.len]; exact h.ok.2.2
theorem posI_lt {l : List Tim} {x : Int} (h : x ∈ l.map Tim.id) : (posI l x).toNat < l.length := by
  obtain ⟨s, hs, e⟩ := List.mem_map.1 h
  show (((l.findIdx fun t => t.id == x : Nat) : Int)).toNat < _
  rw [Int.toNat_natCast]
  exact List.findIdx_lt_length_of_exists ⟨s, hs, by simp [e]⟩
theorem posI_id {l : List Tim} {x : Int} (h : x ∈ l.map Tim.id) : (tf l (posI l x).toNat).id = x := by
  have hl := posI_lt h
  have e : (posI l x).toNat = l.findIdx fun t => t.id == x := by
    show (((l.findIdx fun t => t.id == x : Nat) : Int)).toNat = _
    rw [Int.toNat_natCast]
  rw [e] at hl ⊢
  have e2 : tf l (l.findIdx fun t => t.id == x) = l[l.findIdx fun t => t.id == x] := by simp [tf, List.getD, hl]
  rw [e2]
  simpa using List.findIdx_getElem (p := fun t : Tim => t.id == x) (w := hl)
theorem setW_new {w : Whl} {S : List Tim} (h : Rep w S) {id a : Int} (h0 : 0 ≤ a) (h1 : a ≤ 1099511627776) (hn : id ∉ S.map Tim.id) (hl : S.length < 4096) : (setW w id a).2 = 0 ∧ Rep (setW w id a).1 (S ++ [⟨id, a⟩]) := by
  have hk : id ∉ w.ks := fun e => hn (h.ks.mem_iff.1 e)
  have e : setW w id a = (⟨pushT w.l ⟨id, a⟩, w.ks ++ [id]⟩, 0) := by
    unfold setW
    rw [if_neg (by omega), if_neg hk, if_neg (by rw [h.len]; omega)]
  rw [e]
  have hp := pushT_perm w.l ⟨id, a⟩
  have hp2 : (pushT w.l ⟨id, a⟩).Perm (S ++ [⟨id, a⟩]) := hp.trans (h.perm.append_right _)
  refine ⟨rfl, ⟨?_, ?_, ?_⟩, pushT_hp h.hp _, hp2⟩
  · refine (hp2.map _).nodup_iff.2 ?_
    rw [List.map_append]
    exact List.nodup_append.2 ⟨h.nodup, by simp, fun x hx y hy => by simp at hy; subst hy; exact fun e => hn (e ▸ hx)⟩
  · refine List.Perm.trans ?_ (hp2.map _).symm
    rw [List.map_append]
    exact h.ks.append_right _
  · show (pushT w.l ⟨id, a⟩).length ≤ 4096
    rw [hp2.length_eq]; simp; omega
theorem map_set_id {l : List Tim} {k : Nat} (a : Int) (hk : k < l.length) : (l.set k ⟨(tf l k).id, a⟩).map Tim.id = l.map Tim.id := by
  apply List.ext_getElem?
  intro i
  rw [List.getElem?_map, List.getElem?_map, List.getElem?_set]
  split
  · rename_i e; subst e
    simp [tf, List.getD, hk]
  · rfl
theorem erase_tail {x : Int} {a b : List Int} (h : (x :: a).Perm b) {c : List Int} (hc : c.Perm b) : (c.erase x).Perm a := by
  have h1 : c.Perm (x :: a) := hc.trans h.symm
  have h2 := h1.erase x
  rwa [List.erase_cons_head] at h2
theorem popW_ok {w : Whl} (h : okW w) (h0 : 0 < w.l.length) : okW (popW w) := by
  have hp := popT_perm h0
  have hids := hp.map Tim.id
  rw [List.map_cons] at hids
  refine ⟨(List.nodup_cons.1 (hids.nodup_iff.2 h.1)).2, erase_tail hids h.2.1, ?_⟩
  show (popT w.l).length ≤ 4096
  rw [popT_len]
  have := h.2.2; omega
theorem dueK_l : ∀ (u : Nat) (now : Int) (w : Whl), (dueK u now w).1 = (dueT u now w.l).1 ∧ (dueK u now w).2.l = (dueT u now w.l).2
  | 0, _, _ => ⟨rfl, rfl⟩
  | u + 1, now, w => by
    unfold dueK dueT
    split
    · exact ⟨rfl, rfl⟩
    · have := dueK_l u now (popW w)
      exact ⟨by show _ :: _ = _ :: _; rw [this.1]; rfl, this.2⟩
theorem dueK_ok : ∀ (u : Nat) (now : Int) {w : Whl}, okW w → okW (dueK u now w).2
  | 0, _, _, h => h
  | u + 1, now, w, h => by
    unfold dueK
    split
    · exact h
    · rename_i hc
      exact dueK_ok u now (popW_ok h (by omega))
theorem due_rep {w : Whl} {S : List Tim} (h : Rep w S) (now : Int) :
    Rep (dueW w now).2 (S.filter fun t => decide (now < t.at_)) ∧ (dueW w now).1.Perm (S.filter fun t => decide (t.at_ ≤ now)) ∧ (dueW w now).1.Pairwise leT := by
  obtain ⟨a1, a2, a3, a4, a5⟩ := dueT_all w.l.length now h.hp (Nat.le_refl _)
  have e := dueK_l w.l.length now w
  have hok := dueK_ok w.l.length now h.ok
  have hp : ((dueT w.l.length now w.l).1 ++ (dueT w.l.length now w.l).2).Perm S := a2.trans h.perm
  unfold dueW
  refine ⟨⟨hok, by rw [e.2]; exact a1, ?_⟩, ?_, by rw [e.1]; exact a5⟩
  · rw [e.2]
    have h3 := hp.filter fun t => decide (now < t.at_)
    rw [List.filter_append, List.filter_eq_nil_iff.2 (fun t ht => by have := a3 t ht; simp; omega), List.filter_eq_self.2 (fun t ht => by have := a4 t ht; simpa using this), List.nil_append] at h3
    exact h3
  · rw [e.1]
    have h3 := hp.filter fun t => decide (t.at_ ≤ now)
    rw [List.filter_append, List.filter_eq_self.2 (fun t ht => by have := a3 t ht; simpa using this), List.filter_eq_nil_iff.2 (fun t ht => by have := a4 t ht; simp; omega), List.append_nil] at h3
    exact h3
theorem sortT_perm (l : List Tim) : (sortT l).Perm l := List.mergeSort_perm _ _
theorem sortT_len (l : List Tim) : (sortT l).length = l.length := (sortT_perm l).length_eq
end Go.ZM
