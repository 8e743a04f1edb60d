/- Part 22 of what the closing text rests on. -/
import Derived.Test.YtlbfenfepmmihaaO21
import Derived.Test.YtlbfenfepmmihaaRows
namespace Go.ZR
open Go.Proofs
open Go.Z Go.ZM Go.RowKit
set_option maxRecDepth 100000
theorem w9_ok : COk Try.prog (ctrs w9) := cok_cons ok42 (cok_cons ok43 (cok_cons ok44 (cok_cons ok52 (cok_cons ok46 (cok_cons ok45 (cok_cons ok47 cok_nil))))))
end Go.ZR

set_option maxRecDepth 100000
namespace Go.ZM
open Go.Z Go.ZR
def mkS (x : List Int) (n : Nat) : List Tim := (List.range n).map fun j : Nat => ⟨(j : Int), x.getD j 0⟩
def idsS (x ids : List Int) : List Tim := ids.map fun z => ⟨z, x.getD z.toNat 0⟩
def rgI (n : Nat) : List Int := (List.range n).map fun j : Nat => (j : Int)
theorem mkS_len (x : List Int) (n : Nat) : (mkS x n).length = n := by simp [mkS]
theorem mkS_ids (x : List Int) (n : Nat) : (mkS x n).map Tim.id = rgI n := by
  unfold mkS rgI
  rw [List.map_map]
  rfl
theorem rgI_mem {n : Nat} {z : Int} : z ∈ rgI n ↔ 0 ≤ z ∧ z < n := by
  unfold rgI
  rw [List.mem_map]
  constructor
  · rintro ⟨i, hi, rfl⟩
    have := List.mem_range.1 hi
    omega
  · rintro ⟨h1, h2⟩
    exact ⟨z.toNat, List.mem_range.2 (by omega), by omega⟩
theorem rgI_len (n : Nat) : (rgI n).length = n := by simp [rgI]
theorem rgI_nodup (n : Nat) : (rgI n).Nodup := by
  unfold rgI
  refine List.pairwise_map.2 (List.Pairwise.imp (fun h e => h (by omega)) List.nodup_range)
theorem mkS_succ (x : List Int) (n : Nat) : mkS x (n + 1) = mkS x n ++ [⟨(n : Int), x.getD n 0⟩] := by
  unfold mkS
  rw [List.range_succ, List.map_append]
  rfl
theorem idsS_rg (x : List Int) (n : Nat) : idsS x (rgI n) = mkS x n := by
  unfold idsS rgI mkS
  rw [List.map_map]
  refine List.map_congr_left fun j _ => ?_
  simp
theorem idsS_ids (x ids : List Int) : (idsS x ids).map Tim.id = ids := by
  unfold idsS
  rw [List.map_map]
  exact List.map_id ids
theorem idsS_len (x ids : List Int) : (idsS x ids).length = ids.length := by simp [idsS]
theorem idsS_app (x a b : List Int) : idsS x (a ++ b) = idsS x a ++ idsS x b := by simp [idsS]
theorem swap_perm {l : List Int} {i k : Nat} (hi : i < l.length) (hk : k < l.length) : ((l.set i (l.getD k 0)).set k (l.getD i 0)).Perm l := by
  have ei : l.getD i 0 = l[i] := by simp [List.getD, hi]
  have ek : l.getD k 0 = l[k] := by simp [List.getD, hk]
  rw [ei, ek]
  exact List.set_set_perm hi hk
theorem rg_set {N i : Nat} (h : i < N) : (rgI i ++ List.replicate (N - i) 0).set i (i : Int) = rgI (i + 1) ++ List.replicate (N - (i + 1)) 0 := by
  obtain ⟨m, hm⟩ : ∃ m, N - i = m + 1 := ⟨N - i - 1, by omega⟩
  have e : rgI (i + 1) = rgI i ++ [(i : Int)] := by
    unfold rgI
    rw [List.range_succ, List.map_append]
    rfl
  rw [hm, List.replicate_succ, List.set_append_right _ _ (by rw [rgI_len]; omega), rgI_len, Nat.sub_self, List.set_cons_zero, e, List.append_assoc, show N - (i + 1) = m by omega]
  rfl
theorem mod_in {a b : Int} (ha : 0 ≤ a) (hb : 0 < b) : 0 ≤ a.tmod b ∧ a.tmod b < b := by
  rw [Int.tmod_eq_emod_of_nonneg ha]
  exact ⟨Int.emod_nonneg _ (by omega), Int.emod_lt_of_pos _ hb⟩
theorem nodup_take {l : List Int} (hn : l.Nodup) {i : Nat} (hi : i < l.length) : l.getD i 0 ∉ l.take i := fun h => by
  have e : l.getD i 0 = l[i] := by simp [List.getD, hi]
  rw [e] at h
  obtain ⟨j, hj, hjl, ej⟩ : ∃ j, ∃ hj : j < i, ∃ hjl : j < l.length, l[j] = l[i] := by
    obtain ⟨j, hj, e⟩ := List.getElem_of_mem h
    have hj' : j < i ∧ j < l.length := by
      rw [List.length_take] at hj
      omega
    exact ⟨j, hj'.1, hj'.2, by rw [← e]; simp⟩
  have := (List.getElem_inj hn).1 ej
  omega
theorem take_next {l : List Int} {i : Nat} (hi : i < l.length) : l.take (i + 1) = l.take i ++ [l.getD i 0] := by
  rw [List.take_add_one, List.getElem?_eq_getElem hi]
  simp [List.getD, hi]
theorem due_len {w : Whl} {S : List Tim} (h : Rep w S) (now : Int) : (dueW w now).1.length ≤ 4096 := by
  rw [(due_rep h now).2.1.length_eq]
  exact Nat.le_trans (List.length_filter_le _ _) h.le
theorem due_same {v w : Whl} {S : List Tim} (h : Rep v S) (k : Rep w S) (now : Int) : (dueW v now).1 = (dueW w now).1 :=
  sorted_eq ((due_rep h now).2.1.trans (due_rep k now).2.1.symm) (due_rep h now).2.2 (due_rep k now).2.2
theorem sameT_refl (l : List Tim) : sameT l l = true := decide_eq_true rfl
theorem rep0 {a b : Nat} (h : a = b) : List.replicate a (0 : Int) = rgI 0 ++ List.replicate (b - 0) 0 := by subst h; rfl
theorem elem_in {m : Int} {x : List Int} (h : ∀ z ∈ x, 0 ≤ z ∧ z ≤ m) {i : Nat} (hi : i < x.length) : 0 ≤ x.getD i 0 ∧ x.getD i 0 ≤ m := by
  have e : x.getD i 0 = x[i] := by simp [List.getD, hi]
  rw [e]
  exact h _ (List.getElem_mem hi)
theorem ord_body {x y js : List Int} {k : Nat} {b : Int} (hb : b = ((min x.length 100 : Nat) : Int)) (hb0 : 0 < b) (h2 : k < min x.length 100) (hy : ∀ z ∈ y, 0 ≤ z ∧ z ≤ 255) (hk : k < y.length) (p2 : js.Perm (rgI (min x.length 100))) :
    (0 ≤ (k : Int) ∧ (k : Int) < (y.length : Int)) ∧ b ≠ 0 ∧ (0 ≤ (k : Int) ∧ (k : Int) < (js.length : Int)) ∧ (0 ≤ (IntKind.i64.wrap (y.getD k 0)).tmod b ∧ (IntKind.i64.wrap (y.getD k 0)).tmod b < (js.length : Int)) ∧ (0 ≤ (k : Int) ∧ (k : Int) < (js.length : Int)) ∧
    (0 ≤ (IntKind.i64.wrap (y.getD k 0)).tmod b ∧ (IntKind.i64.wrap (y.getD k 0)).tmod b < ((js.set k (js.getD ((IntKind.i64.wrap (y.getD k 0)).tmod b).toNat 0)).length : Int)) ∧
    ∃ g' : Nat × List Int, (g'.fst ≤ min x.length 100 ∧ g'.snd.Perm (rgI (min x.length 100))) ∧ min x.length 100 - g'.fst < min x.length 100 - k ∧ IntKind.i64.wrap ((k : Int) + 1) = (g'.fst : Int) ∧
      (js.set k (js.getD ((IntKind.i64.wrap (y.getD k 0)).tmod b).toNat 0)).set ((IntKind.i64.wrap (y.getD k 0)).tmod b).toNat (js.getD k 0) = g'.snd := by
  have hv := elem_in hy hk
  have hjl : js.length = min x.length 100 := by rw [p2.length_eq, rgI_len]
  rw [wrap_i64_id (show -9223372036854775808 ≤ y.getD k 0 by omega) (by omega)]
  have mb := mod_in hv.1 hb0
  generalize (y.getD k 0).tmod b = m at mb
  rw [List.length_set]
  exact ⟨by omega, by omega, by omega, by omega, by omega, by omega, (k + 1, _), ⟨by simp only; omega, (swap_perm (by omega) (by omega)).trans p2⟩, by simp only; omega, (wrap_i64_id (by omega) (by omega)).trans (by simp only; omega), rfl⟩
end Go.ZM
namespace Go.ZR
open Go.Z Go.ZM Go.Proofs
def inB (m : Int) (x : List Int) : Prop := ∀ z ∈ x, 0 ≤ z ∧ z ≤ m
def idsO (l : List Int) : O := .own 3 (.ints .i64 l)
def wOrdC : Ctr := yesW 2 fun a => ∃ x y : List Int, a = [.d (.ints .u8 x), .d (.ints .u8 y)] ∧ (inB 255 x ∧ x.length ≤ 1048576) ∧ (inB 255 y ∧ y.length ≤ 1048576)
def nOf (m : Nat) (x : List Int) : Nat := min x.length m
def wOrdA1 (x : List Int) : LoopAnn where
  γ := Nat × Whl × List Int
  pre := fun g => g.1 ≤ nOf 100 x ∧ Rep g.2.1 (mkS x g.1) ∧ g.2.2 = rgI g.1 ++ List.replicate (nOf 100 x - g.1) 0
  μ := fun g => nOf 100 x - g.1
  items := fun g => [(9, .c (iO .i64 (g.1 : Int))), (6, .blk (whB g.2.1.l g.2.1.ks)), (8, .c (idsO g.2.2))]
def wOrdA2 (x : List Int) : LoopAnn where
  γ := Nat × List Int
  pre := fun g => g.1 ≤ nOf 100 x ∧ g.2.Perm (rgI (nOf 100 x))
  μ := fun g => nOf 100 x - g.1
  items := fun g => [(10, .c (iO .i64 (g.1 : Int))), (8, .c (idsO g.2))]
def wOrdA3 (x : List Int) : LoopAnn where
  γ := Nat × Whl × List Int
  pre := fun g => g.1 ≤ nOf 100 x ∧ g.2.2.Perm (rgI (nOf 100 x)) ∧ Rep g.2.1 (idsS x (g.2.2.take g.1))
  μ := fun g => nOf 100 x - g.1
  items := fun g => [(13, .c (iO .i64 (g.1 : Int))), (7, .blk (whB g.2.1.l g.2.1.ks)), (8, .c (idsO g.2.2))]
end Go.ZR
