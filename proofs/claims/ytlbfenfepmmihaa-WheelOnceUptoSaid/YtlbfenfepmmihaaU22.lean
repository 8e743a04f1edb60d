/- Part 22 of what the closing text rests on. -/
import Derived.Test.YtlbfenfepmmihaaU21
import Derived.Test.YtlbfenfepmmihaaRows
namespace Go.ZR
open Go.Proofs
open Go.Z Go.ZM Go.RowKit
set_option maxRecDepth 100000
theorem w9_ok : COk Try.prog (ctrs w9) := cok_cons ok42 (cok_cons ok43 (cok_cons ok44 (cok_cons ok52 (cok_cons ok46 (cok_cons ok45 (cok_cons ok47 cok_nil))))))
end Go.ZR

set_option maxRecDepth 100000
namespace Go.ZM
open Go.Z Go.ZR
def mkS (x : List Int) (n : Nat) : List Tim := (List.range n).map fun j : Nat => ⟨(j : Int), x.getD j 0⟩
def rgI (n : Nat) : List Int := (List.range n).map fun j : Nat => (j : Int)
theorem mkS_len (x : List Int) (n : Nat) : (mkS x n).length = n := by simp [mkS]
theorem mkS_ids (x : List Int) (n : Nat) : (mkS x n).map Tim.id = rgI n := by
  unfold mkS rgI
  rw [List.map_map]
  rfl
theorem rgI_mem {n : Nat} {z : Int} : z ∈ rgI n ↔ 0 ≤ z ∧ z < n := by
  unfold rgI
  rw [List.mem_map]
  constructor
  · rintro ⟨i, hi, rfl⟩
    have := List.mem_range.1 hi
    omega
  · rintro ⟨h1, h2⟩
    exact ⟨z.toNat, List.mem_range.2 (by omega), by omega⟩
theorem rgI_nodup (n : Nat) : (rgI n).Nodup := by
  unfold rgI
  refine List.pairwise_map.2 (List.Pairwise.imp (fun h e => h (by omega)) List.nodup_range)
theorem mkS_succ (x : List Int) (n : Nat) : mkS x (n + 1) = mkS x n ++ [⟨(n : Int), x.getD n 0⟩] := by
  unfold mkS
  rw [List.range_succ, List.map_append]
  rfl
theorem due_len {w : Whl} {S : List Tim} (h : Rep w S) (now : Int) : (dueW w now).1.length ≤ 4096 := by
  rw [(due_rep h now).2.1.length_eq]
  exact Nat.le_trans (List.length_filter_le _ _) h.le
theorem elem_in {m : Int} {x : List Int} (h : ∀ z ∈ x, 0 ≤ z ∧ z ≤ m) {i : Nat} (hi : i < x.length) : 0 ≤ x.getD i 0 ∧ x.getD i 0 ≤ m := by
  have e : x.getD i 0 = x[i] := by simp [List.getD, hi]
  rw [e]
  exact h _ (List.getElem_mem hi)
end Go.ZM
namespace Go.ZR
open Go.Z Go.ZM Go.Proofs
def inB (m : Int) (x : List Int) : Prop := ∀ z ∈ x, 0 ≤ z ∧ z ≤ m
def idsO (l : List Int) : O := .own 3 (.ints .i64 l)
def nOf (m : Nat) (x : List Int) : Nat := min x.length m
end Go.ZR
