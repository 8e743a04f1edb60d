/- Part 21 of what the closing text rests on. -/
import Derived.Test.YtlbfenfepmmihaaP20
import Derived.Test.YtlbfenfepmmihaaRows
namespace Go.ZR
open Go.Proofs
open Go.Z Go.ZM Go.RowKit
set_option maxRecDepth 100000
end Go.ZR

set_option maxRecDepth 100000
namespace Go.ZM
open Go.Z
theorem u32_add (x y : Int) : u32 (x + u32 y) = u32 (x + y) := by unfold u32; omega
theorem last_none : ∀ n : Nat, lastG [] n = -1
  | 0 => rfl
  | n + 1 => by
    show (if hitG [] ((n : Int) + 1) = true then _ else lastG [] n) = _
    rw [if_neg (by simp [hitG]), last_none n]
theorem gap_none (i : Nat) (x : ItR) : gapI [] i x = { x with heard := false } := rfl
def plainH (c : Int) : HeaR := ⟨c, 0, [], []⟩
theorem plain_ap (c : Int) : apartF (plainH c).gaps = true := rfl
theorem cum_full {f : Int} {q : QuR} (h1 : q.next = u32 (f + 256)) (h2 : q.wait.length + q.out.length = 256) : cumQ q = u32 (f - 1) := by
  unfold cumQ
  have : (q.wait.length : Int) + q.out.length = 256 := by omega
  rw [h1, this]
  unfold u32
  omega
theorem inQ_full {f g : Int} {q : QuR} {n : Nat} (h1 : q.next = u32 (f + 256)) (h2 : q.wait.length + q.out.length = 256) (h3 : q.out.length = n) (hg : 0 ≤ g ∧ g ≤ 255) : inQ q (plainH (u32 (u32 (f + g) - 1))) = decide (g ≤ n) := by
  unfold inQ
  rw [cum_full h1 h2, h3]
  have e1 : u32 ((plainH (u32 (u32 (f + g) - 1))).cum - u32 (f - 1)) = g := by
    show u32 (u32 (u32 (f + g) - 1) - u32 (f - 1)) = g
    unfold u32
    omega
  have e2 : u32 (u32 (u32 (f - 1) + (n : Int)) - u32 (f - 1)) = n := by
    unfold u32
    omega
  rw [e1, e2]
theorem full_old {f g : Int} {q : QuR} {n : Nat} (h1 : q.next = u32 (f + 256)) (h2 : q.wait.length + q.out.length = 256) (h3 : q.out.length = n) (hg : 0 ≤ g ∧ g ≤ 255) (h : (n : Int) < g) : (heardQ q (plainH (u32 (u32 (f + g) - 1)))).e = 15 := by
  unfold heardQ
  rw [plain_ap, inQ_full h1 h2 h3 hg, if_neg (show ¬ (true = false) by decide), if_pos (by rw [decide_eq_false_iff_not]; omega)]
theorem full_heard {f g : Int} {q : QuR} {n : Nat} (hq : okQ q) (h1 : q.next = u32 (f + 256)) (h2 : q.wait.length + q.out.length = 256) (h3 : q.out.length = n) (hg : 0 ≤ g ∧ g ≤ 255) (h : g ≤ (n : Int)) :
    (heardQ q (plainH (u32 (u32 (f + g) - 1)))).e = 0 ∧ okQ (heardQ q (plainH (u32 (u32 (f + g) - 1)))).q ∧ (((heardQ q (plainH (u32 (u32 (f + g) - 1)))).q.wait.length + (heardQ q (plainH (u32 (u32 (f + g) - 1)))).q.out.length : Nat) : Int) = 256 - g := by
  have hd : doneQ q (plainH (u32 (u32 (f + g) - 1))) = g.toNat := by
    unfold doneQ
    rw [cum_full h1 h2]
    show (u32 (u32 (u32 (f + g) - 1) - u32 (f - 1))).toNat = _
    have : u32 (u32 (u32 (f + g) - 1) - u32 (f - 1)) = g := by
      unfold u32
      omega
    rw [this]
  have e : heardQ q (plainH (u32 (u32 (f + g) - 1))) = ⟨⟨q.next, q.wait, out3 q (plainH (u32 (u32 (f + g) - 1)))⟩, ac2 q (plainH (u32 (u32 (f + g) - 1))) (out1 q (plainH (u32 (u32 (f + g) - 1)))).length, fast3 q (plainH (u32 (u32 (f + g) - 1))) (last2 q (plainH (u32 (u32 (f + g) - 1)))), 0⟩ := by
    unfold heardQ
    rw [plain_ap, inQ_full h1 h2 h3 hg, if_neg (show ¬ (true = false) by decide), if_neg (by rw [decide_eq_false_iff_not]; omega)]
  have o : out3 q (plainH (u32 (u32 (f + g) - 1))) = (q.out.drop g.toNat).mapIdx (gapI []) := by
    unfold out3
    have hl : last2 q (plainH (u32 (u32 (f + g) - 1))) = 0 := by
      show (lastG [] _ + 1).toNat = 0
      rw [last_none]
      rfl
    rw [hl, mapTo_z]
    unfold out2 out1
    rw [hd]
    rfl
  rw [e, o]
  have ol : ((q.out.drop g.toNat).mapIdx (gapI [])).length = n - g.toNat := by rw [List.length_mapIdx, List.length_drop, h3]
  refine ⟨rfl, ⟨by rw [h1]; exact u32_lo _, ?_, hq.2.2.1, fun x hx => ?_⟩, ?_⟩
  · show q.wait.length + ((q.out.drop g.toNat).mapIdx (gapI [])).length ≤ 256
    rw [ol]
    omega
  · obtain ⟨i, hi, rfl⟩ := List.mem_mapIdx.1 hx
    rw [gap_none]
    have hi' : i < (q.out.drop g.toNat).length := by simpa using hi
    exact (show okIt ((q.out.drop g.toNat)[i]'hi') from hq.2.2.2 _ (List.mem_of_mem_drop (List.getElem_mem hi')))
  · show ((q.wait.length + ((q.out.drop g.toNat).mapIdx (gapI [])).length : Nat) : Int) = 256 - g
    rw [ol]
    omega
end Go.ZM
