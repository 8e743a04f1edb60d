/- Part 15 of what the closing text rests on. -/
import Derived.Test.YtlbfenfepmmihaaU14
import Derived.Test.YtlbfenfepmmihaaRows
namespace Go.ZR
open Go.Z
def vi : D → Int
  | .v (.int _ n) => n
  | _ => 0
def vl : D → List Int
  | .ints _ l => l
  | _ => []
end Go.ZR
namespace Go.ZM
open Go.Z Go.ZR
def sm (n : Nat) : Prop := n ≤ 1099511627776
def okI (n : Int) : Prop := -2199023255552 ≤ n ∧ n ≤ 2199023255552
def partF (b : List Int) (i n : Int) : List Int × Int :=
  if i < 0 ∨ n < 0 then ([], 1) else if (b.length : Int) < i ∨ (b.length : Int) - i < n then ([], 3) else ((b.drop i.toNat).take n.toNat, 0)
def getF (b : List Int) (i : Int) (k : Nat) : Int × Int := (valF (partF b i k).1, (partF b i k).2)
end Go.ZM
namespace Go.ZR
open Go.Z Go.ZM
def iO (k : IntKind) (n : Int) : O := .d (.v (.int k n))
def bO (b : Bool) : O := .d (.v (.bool b))
def bsO (l : List Int) : O := .d (.ints .u8 l)
def bsN (l : List Int) : O := .own 5 (.ints .u8 l)
def dO : O → D
  | .d x => x
  | _ => .v (.bool false)
def at_ (a : List O) (i : Nat) : O := a.getD i .any
def nC (n : Nat) (quiet : Bool) (pre : List O → Prop) (res : List O → List O) : Ctr where
  own := []
  pre := pre
  res := res
  upd := fun _ => List.replicate n .any
  ro := false
  quiet := quiet
def cloneC : Ctr := nC 1 false (fun a => ∃ l, a = [bsO l] ∧ sm l.length) fun a => [bsN (vl (dO (at_ a 0)))]
def padC : Ctr := nC 1 true (fun a => ∃ n : Nat, a = [iO .i64 n] ∧ n ≤ 2199023255552) fun a => [iO .i64 (padN (vi (dO (at_ a 0))).toNat : Nat)]
def paddedC : Ctr := nC 1 false (fun a => ∃ l, a = [bsO l] ∧ sm l.length) fun a => [bsN (padF (vl (dO (at_ a 0))))]
def putC : Ctr := nC 3 false (fun a => ∃ (b : List Int) (n : Int) (k : Nat), a = [bsO b, iO .u64 n, iO .i64 k] ∧ sm b.length ∧ 1 ≤ k ∧ k ≤ 8) fun a =>
  [bsN (vl (dO (at_ a 0)) ++ be (vi (dO (at_ a 1))) (vi (dO (at_ a 2))).toNat)]
def partA (a : List O) : List Int × Int := partF (vl (dO (at_ a 0))) (vi (dO (at_ a 1))) (vi (dO (at_ a 2)))
def partC : Ctr := nC 3 false (fun a => ∃ (b : List Int) (i n : Int), a = [bsO b, iO .i64 i, iO .i64 n] ∧ sm b.length ∧ okI i ∧ okI n) fun a => [bsN (partA a).1, iO .i64 (partA a).2]
def getA (a : List O) : Int × Int := getF (vl (dO (at_ a 0))) (vi (dO (at_ a 1))) (vi (dO (at_ a 2))).toNat
def getC (m : Nat) : Ctr := nC 3 false (fun a => ∃ (b : List Int) (i : Int) (k : Nat), a = [bsO b, iO .i64 i, iO .i64 k] ∧ sm b.length ∧ okB b ∧ okI i ∧ 1 ≤ k ∧ k ≤ m) fun a => [iO .u64 (getA a).1, iO .i64 (getA a).2]
def c0 : List (Nat × Ctr) := []
def c1 : List (Nat × Ctr) := [(82, cloneC), (241, padC)]
def c2 : List (Nat × Ctr) := [(201, partC), (266, partC)]
def c3 : List (Nat × Ctr) := [(245, getC 8)]
theorem c0_ok {P : Program} : COk P (ctrs c0) := cok_nil
end Go.ZR

set_option maxRecDepth 100000
namespace Go.ZM
structure Tim where
  id : Int
  at_ : Int
def noTim : Tim := ⟨0, 0⟩
def ltT (a b : Tim) : Bool := decide (a.at_ < b.at_) || (decide (a.at_ = b.at_) && decide (a.id < b.id))
def leT (a b : Tim) : Prop := ltT b a = false
theorem leT_iff {a b : Tim} : leT a b ↔ a.at_ < b.at_ ∨ (a.at_ = b.at_ ∧ a.id ≤ b.id) := by
  simp only [leT, ltT, Bool.or_eq_false_iff, Bool.and_eq_false_iff, decide_eq_false_iff_not]
  omega
theorem ltT_iff {a b : Tim} : ltT a b = true ↔ a.at_ < b.at_ ∨ (a.at_ = b.at_ ∧ a.id < b.id) := by
  simp only [ltT, Bool.or_eq_true, Bool.and_eq_true, decide_eq_true_eq]
theorem leT_refl (a : Tim) : leT a a := leT_iff.2 (by omega)
theorem leT_trans {a b c : Tim} (h : leT a b) (k : leT b c) : leT a c := by
  rw [leT_iff] at *
  omega
theorem ltT_le {a b : Tim} (h : ltT a b = true) : leT a b := by
  rw [ltT_iff] at h
  rw [leT_iff]
  omega
def swp (f : Nat → Tim) (i j : Nat) : Nat → Tim := fun k => if k = i then f j else if k = j then f i else f k
theorem swp_i (f : Nat → Tim) (i j : Nat) : swp f i j i = f j := by simp [swp]
theorem swp_j (f : Nat → Tim) (i j : Nat) : swp f i j j = f i := by
  unfold swp
  by_cases h : j = i
  · subst h; simp
  · simp [h]
theorem swp_o {f : Nat → Tim} {i j k : Nat} (h1 : k ≠ i) (h2 : k ≠ j) : swp f i j k = f k := by simp [swp, h1, h2]
def hp (f : Nat → Tim) (n : Nat) : Prop := ∀ k, 0 < k → k < n → leT (f ((k - 1) / 2)) (f k)
def hpUp (f : Nat → Tim) (j n : Nat) : Prop := (∀ k, 0 < k → k < n → k ≠ j → leT (f ((k - 1) / 2)) (f k)) ∧ (0 < j → ∀ k, 0 < k → k < n → (k - 1) / 2 = j → leT (f ((j - 1) / 2)) (f k))
def hpDown (f : Nat → Tim) (i n : Nat) : Prop := (∀ k, 0 < k → k < n → (k - 1) / 2 ≠ i → leT (f ((k - 1) / 2)) (f k)) ∧ (0 < i → ∀ k, 0 < k → k < n → (k - 1) / 2 = i → leT (f ((i - 1) / 2)) (f k))
def hpFix (f : Nat → Tim) (i n : Nat) : Prop := (∀ k, 0 < k → k < n → k ≠ i → (k - 1) / 2 ≠ i → leT (f ((k - 1) / 2)) (f k)) ∧ (0 < i → ∀ k, 0 < k → k < n → (k - 1) / 2 = i → leT (f ((i - 1) / 2)) (f k))
def upF : Nat → (Nat → Tim) → Nat → Nat → Tim
  | 0, f, _ => f
  | u + 1, f, j => if (j - 1) / 2 = j then f else if ltT (f j) (f ((j - 1) / 2)) = false then f else upF u (swp f ((j - 1) / 2) j) ((j - 1) / 2)
def kid (f : Nat → Tim) (i n : Nat) : Nat := if 2 * i + 2 < n ∧ ltT (f (2 * i + 2)) (f (2 * i + 1)) = true then 2 * i + 2 else 2 * i + 1
def downF : Nat → (Nat → Tim) → Nat → Nat → (Nat → Tim) × Nat
  | 0, f, i, _ => (f, i)
  | u + 1, f, i, n => if n ≤ 2 * i + 1 then (f, i) else if ltT (f (kid f i n)) (f i) = false then (f, i) else downF u (swp f i (kid f i n)) (kid f i n) n
theorem upF_hp : ∀ (u : Nat) {f : Nat → Tim} {j n : Nat}, hpUp f j n → j < n → j ≤ u → hp (upF u f j) n
  | 0, f, j, n, h, hj, hu => by
    obtain rfl : j = 0 := by omega
    exact fun k hk hkn => h.1 k hk hkn (by omega)
  | u + 1, f, j, n, h, hj, hu => by
    unfold upF
    by_cases h0 : (j - 1) / 2 = j
    · rw [if_pos h0]
      obtain rfl : j = 0 := by omega
      exact fun k hk hkn => h.1 k hk hkn (by omega)
    · rw [if_neg h0]
      have hj0 : 0 < j := by omega
      by_cases hl : ltT (f j) (f ((j - 1) / 2)) = false
      · rw [if_pos hl]
        intro k hk hkn
        by_cases e : k = j
        · subst e; exact hl
        · exact h.1 k hk hkn e
      · rw [if_neg hl]
        have hl' : leT (f j) (f ((j - 1) / 2)) := ltT_le (by simpa using hl)
        refine upF_hp u ⟨fun k hk hkn hne => ?_, fun hp0 k hk hkn hpar => ?_⟩ (by omega) (by omega)
        · by_cases e1 : k = j
          · subst e1
            rw [swp_i, swp_j]
            exact hl'
          · rw [swp_o (k := k) hne e1]
            by_cases e2 : (k - 1) / 2 = (j - 1) / 2
            · rw [e2, swp_i]
              have := h.1 k hk hkn e1
              rw [e2] at this
              exact leT_trans hl' this
            · by_cases e3 : (k - 1) / 2 = j
              · rw [e3, swp_j]
                exact h.2 hj0 k hk hkn e3
              · rw [swp_o e2 e3]
                exact h.1 k hk hkn e1
        · have e4 : ((j - 1) / 2 - 1) / 2 ≠ (j - 1) / 2 := by omega
          have e5 : ((j - 1) / 2 - 1) / 2 ≠ j := by omega
          rw [swp_o e4 e5]
          have a := h.1 ((j - 1) / 2) hp0 (by omega) (by omega)
          by_cases e1 : k = j
          · subst e1
            rw [swp_j]
            exact a
          · have e2 : k ≠ (j - 1) / 2 := by omega
            rw [swp_o e2 e1]
            have b := h.1 k hk hkn e1
            rw [hpar] at b
            exact leT_trans a b
theorem kid_lt {f : Nat → Tim} {i n : Nat} (h : 2 * i + 1 < n) : kid f i n < n ∧ i < kid f i n ∧ (kid f i n - 1) / 2 = i := by
  unfold kid
  split <;> omega
theorem kid_le {f : Nat → Tim} {i n k : Nat} (hk : 0 < k) (hkn : k < n) (hp : (k - 1) / 2 = i) : leT (f (kid f i n)) (f k) := by
  unfold kid
  split
  · rename_i h
    have : k = 2 * i + 1 ∨ k = 2 * i + 2 := by omega
    rcases this with rfl | rfl
    · exact ltT_le h.2
    · exact leT_refl _
  · rename_i h
    have : k = 2 * i + 1 ∨ k = 2 * i + 2 := by omega
    rcases this with rfl | rfl
    · exact leT_refl _
    · show ltT (f (2 * i + 2)) (f (2 * i + 1)) = false
      cases hl : ltT (f (2 * i + 2)) (f (2 * i + 1)) with
      | false => rfl
      | true => exact absurd ⟨hkn, hl⟩ h
theorem swap_down {f : Nat → Tim} {i n : Nat} (h : hpFix f i n) (hlt : 2 * i + 1 < n) (hl : ltT (f (kid f i n)) (f i) = true) : hpDown (swp f i (kid f i n)) (kid f i n) n := by
  obtain ⟨k1, k2, k3⟩ := kid_lt (f := f) hlt
  refine ⟨fun k hk hkn hne => ?_, fun _ k hk hkn hpar => ?_⟩
  · by_cases e1 : k = i
    · subst e1
      rw [swp_i, swp_o (by omega) (by omega)]
      exact h.2 hk _ (by omega) k1 k3
    · by_cases e2 : k = kid f i n
      · rw [e2, swp_j, k3, swp_i]
        exact ltT_le hl
      · rw [swp_o (k := k) e1 e2]
        by_cases e3 : (k - 1) / 2 = i
        · rw [e3, swp_i]
          exact kid_le hk hkn e3
        · rw [swp_o e3 hne]
          exact h.1 k hk hkn e1 e3
  · rw [k3, swp_i, swp_o (by omega) (by omega)]
    have := h.1 k hk hkn (by omega) (by omega)
    rw [hpar] at this
    exact this
theorem down_fix {f : Nat → Tim} {i n : Nat} (h : hpDown f i n) : hpFix f i n := ⟨fun k hk hkn _ hp => h.1 k hk hkn hp, h.2⟩
theorem downF_hp : ∀ (u : Nat) {f : Nat → Tim} {i n : Nat}, hpDown f i n → n ≤ i + u → hp (downF u f i n).1 n
  | 0, f, i, n, h, hu => fun k hk hkn => h.1 k hk hkn (by omega)
  | u + 1, f, i, n, h, hu => by
    unfold downF
    by_cases h0 : n ≤ 2 * i + 1
    · rw [if_pos h0]
      exact fun k hk hkn => h.1 k hk hkn (by omega)
    · rw [if_neg h0]
      by_cases hl : ltT (f (kid f i n)) (f i) = false
      · rw [if_pos hl]
        intro k hk hkn
        by_cases e : (k - 1) / 2 = i
        · rw [e]
          exact leT_trans hl (kid_le hk hkn e)
        · exact h.1 k hk hkn e
      · rw [if_neg hl]
        have k2 := (kid_lt (f := f) (i := i) (n := n) (by omega)).2.1
        exact downF_hp u (swap_down (down_fix h) (by omega) (by simpa using hl)) (by omega)
def fixF (f : Nat → Tim) (i n : Nat) : Nat → Tim := if (downF n f i n).2 > i then (downF n f i n).1 else upF n (downF n f i n).1 i
theorem hp_root {f : Nat → Tim} {n : Nat} (h : hp f n) : ∀ k, k < n → leT (f 0) (f k) := by
  intro k
  induction k using Nat.strongRecOn with
  | _ k ih =>
    intro hk
    by_cases h0 : k = 0
    · subst h0; exact leT_refl _
    · exact leT_trans (ih ((k - 1) / 2) (by omega) (by omega)) (h k (by omega) hk)
theorem swp_perm (f : Nat → Tim) {i j n : Nat} (hi : i < n) (hj : j < n) : ((List.range n).map (swp f i j)).Perm ((List.range n).map f) := by
  have e : swp f i j = f ∘ fun k => if k = i then j else if k = j then i else k := by
    funext k
    simp only [swp, Function.comp]
    split
    · rfl
    · split <;> rfl
  rw [e, ← List.map_map]
  refine List.Perm.map f ?_
  refine (List.perm_ext_iff_of_nodup ?_ List.nodup_range).2 fun k => ?_
  · unfold List.Nodup
    rw [List.pairwise_map]
    refine List.Pairwise.imp ?_ (show (List.range n).Pairwise (· ≠ ·) from List.nodup_range)
    intro x y hne h
    apply hne
    split at h <;> split at h <;> (try split at h) <;> (try split at h) <;> omega
  · simp only [List.mem_map, List.mem_range]
    constructor
    · rintro ⟨x, hx, rfl⟩
      split
      · exact hj
      · split
        · exact hi
        · exact hx
    · intro hk
      by_cases e1 : k = i
      · exact ⟨j, hj, by subst e1; by_cases e : j = k <;> simp [e]⟩
      · by_cases e2 : k = j
        · exact ⟨i, hi, by simp [e2]⟩
        · exact ⟨k, hk, by simp [e1, e2]⟩
end Go.ZM

namespace Go.ZR
open Go.Proofs
open Go.Z Go.ZM Go.RowKit
set_option maxRecDepth 100000
end Go.ZR

namespace Go.ZM
open Go.Z Go.ZR

structure ChR where
  t : Int
  f : Int
  v : List Int
theorem range_getD {α : Type} (l : List α) (d : α) : (List.range l.length).map (fun i => l.getD i d) = l := by
  apply List.ext_getElem
  · simp
  · intro i h1 h2; simp [List.getD, List.getElem?_eq_getElem h2]
end Go.ZM
namespace Go.ZR
open Go.Z Go.ZM
def c4 : List (Nat × Ctr) := [(241, padC)]
def c5 : List (Nat × Ctr) := [(198, putC), (199, paddedC)]
def c6 : List (Nat × Ctr) := [(65, putC), (156, paddedC)]
def c7 : List (Nat × Ctr) := [(205, getC 8), (241, padC), (201, partC), (82, cloneC)]
end Go.ZR
