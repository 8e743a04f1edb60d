/- Part 6 of what the closing text rests on. -/
import Derived.Test.YtdamnoleoakehaaGreatDoorKX5
namespace Go.Z
open Go.RowKit

section
variable {P : Program} {K : Ctx} {θ : Th} {h : List (Nat × R)} {nx : Nat} {w : World}

end
end Go.Z

namespace Go.Z
open Go.RowKit

def SrcOk (P : Program) (i : TypeInfo) (z : Value) (xT : Nat) (x : Value) (m : Nat) (news : List Value) (w : World) : Prop :=
  (∃ dx, P.underlying xT = some dx ∧ (∀ k, dx ≠ .int k) ∧ (∀ w', (Builtin.lenOf x).run P w' = .ok m w') ∧ (Builtin.firstCells i.size m x).run P w = .ok news.toArray w ∧
    (Builtin.firstCells i.size m x).run P w.drew = .ok news.toArray w.drew) ∨
  (∃ k k', P.underlying xT = some (.int k) ∧ x = .int k' m ∧ m ≤ 9223372036854775807 ∧ m * i.bytes ≤ 281474976710656 ∧ news = (Builtin.zeroCells z.cells m).toList)

section
variable {P : Program} {w : World} {sT e xT ty : Nat} {i : TypeInfo} {z : Value} {x : Value} {m : Nat} {news : List Value}

theorem zeroCells_none (zs : Array Value) (n : Nat) (h : n * zs.size = 0) : Builtin.zeroCells zs n = #[] := by
  unfold Builtin.zeroCells; rw [h]; simp

theorem wrap_i64_nat (m : Nat) (h : m ≤ 9223372036854775807) : IntKind.i64.wrap (m : Int) = m := IntWalk.i64_in _ (by omega)

theorem run_app_room (hT : P.underlying sT = some (.slice e)) (hi : P.info? e = some i) (hz : i.zero = some z) (hzs : z.cells.size = i.size) (hsrc : SrcOk P i z xT x m news w)
    (base : Option Addr) (n cap : Nat) (hroom : n + m ≤ cap) (w' : World)
    (hst : ∀ a, base = some a → (storeCells (a.add (n * i.size)) news).run P w = .ok () w') (hno : base = none → w' = w) :
    (Builtin.append_ #[sT, xT] ty #[.slice base n cap, x]).run P w = .ok (.slice base (n + m) cap) w' := by
  rcases hsrc with ⟨dx, h1, h2, h3, h4, _⟩ | ⟨k, k', h1, rfl, h2, h3, rfl⟩
  · cases base with
    | none =>
      have := hno rfl; subst this
      simp [Builtin.append_, run_underlying hT, run_sizeOf hi, run_underlying h1, h3, h4, hroom]
    | some a =>
      have := hst a rfl
      simp [Builtin.append_, run_underlying hT, run_sizeOf hi, run_underlying h1, h3, h4, hroom, this]
  · have hw := wrap_i64_nat m h2
    have e1 : ¬ ((m : Int) < 0) := by omega
    have e2 : ¬ ((281474976710656 : Int) < (m : Int) * (i.bytes : Int)) := by
      have e3 : ((m * i.bytes : Nat) : Int) = (m : Int) * (i.bytes : Int) := Int.natCast_mul _ _
      omega
    cases base with
    | none =>
      have := hno rfl; subst this
      simp [Builtin.append_, run_underlying hT, run_sizeOf hi, run_typeInfo hi, run_underlying h1, hroom, asInt, asIntOf, hw, e1, e2, run_zero hi hz]
    | some a =>
      have := hst a rfl
      simp [Builtin.append_, run_underlying hT, run_sizeOf hi, run_typeInfo hi, run_underlying h1, hroom, asInt, asIntOf, hw, e1, e2, run_zero hi hz]
      split
      · rename_i h0
        rw [zeroCells_none _ _ (by rw [hzs]; exact h0)] at this
        rw [this]; rfl
      · rw [this]; rfl

theorem run_app_grow (hT : P.underlying sT = some (.slice e)) (hi : P.info? e = some i) (hz : i.zero = some z) (hzs : z.cells.size = i.size) (hsrc : SrcOk P i z xT x m news w)
    (base : Option Addr) (n cap : Nat) (olds : List Value) (hgrow : cap < n + m) (hold : (Builtin.firstCells i.size n (.slice base n cap)).run P w.drew = .ok olds.toArray w.drew)
    (h63 : n + m ≤ 9223372036854775807) (hbytes : (n + m) * i.bytes ≤ 140737488355328) :
    (Builtin.append_ #[sT, xT] ty #[.slice base n cap, x]).run P w = .ok (.slice (some ⟨w.heap.size, 0, none⟩) (n + m) (grownCap w (n + m) cap e))
      (w.drew.alloc (.cells (olds.toArray ++ news.toArray ++ Builtin.zeroCells z.cells (grownCap w (n + m) cap e - (n + m))) e)) := by
  have hn : ¬ (n + m ≤ cap) := by omega
  have h48 := growslice_fits (old := cap) hgrow hbytes
  have h48' : ¬ (281474976710656 < Builtin.nextslicecap (n + m) cap * i.bytes) := by omega
  have h63' : ¬ (9223372036854775807 < ((n : Int) + (m : Int))) := by omega
  rcases hsrc with ⟨dx, h1, h2, h3, _, h5⟩ | ⟨k, k', h1, rfl, h2, h3, rfl⟩
  · simp [Builtin.append_, run_underlying hT, run_sizeOf hi, run_typeInfo hi, run_underlying h1, h3, h5, hn, h63', h48', Question.forced, hold, run_zero hi hz, newRow, grownCap]
    congr 2
    apply Array.ext'
    simp
  · have hw := wrap_i64_nat m h2
    have e1 : ¬ ((m : Int) < 0) := by omega
    have e2 : ¬ ((281474976710656 : Int) < (m : Int) * (i.bytes : Int)) := by
      have e3 : ((m * i.bytes : Nat) : Int) = (m : Int) * (i.bytes : Int) := Int.natCast_mul _ _
      omega
    simp [Builtin.append_, run_underlying hT, run_sizeOf hi, run_typeInfo hi, run_underlying h1, hn, h63', h48', Question.forced, hold, run_zero hi hz, newRow, grownCap, asInt, asIntOf, hw, e1, e2]
    intro h0
    rw [zeroCells_none z.cells m (by rw [hzs]; exact h0)]
    simp
end
end Go.Z

namespace Go.Z
open Go.RowKit

def Col.putV (vs : Col) (o : Option Nat) (v : Value) : Option Col :=
  match vs, v with
  | .ints k m, .int k' z => if k = k' then some (.ints k (mputV m o z)) else none
  | .bools m, .bool z => some (.bools (mputV m o z))
  | .strs m, .string z => some (.strs (mputV m o z))
  | _, _ => none
def Col.putK (ks : Col) (o : Option Nat) (v : Value) : Option Col :=
  match ks, v with
  | .ints k m, .int k' z => if k = k' then some (.ints k (mputK m o z)) else none
  | .bools m, .bool z => some (.bools (mputK m o z))
  | .strs m, .string z => some (.strs (mputK m o z))
  | .prs k m, .agg cs => match prKey k cs.toList with
    | some z => some (.prs k (mputK m o z))
    | none => none
  | _, _ => none
def seenB (seen : List Nat) (b : Nat) : Bool := seen.any (Nat.beq b)
def q3 (vs : List SV) (k : SV → SV → SV → Prop) : Prop := match vs with | [s, t, u] => k s t u | _ => False

structure CE where
  c : Nat → Option Ctr
  j : Nat → List SV → List (Nat × R) → Nat → HK → Prop
instance : CoeFun CE (fun _ => Nat → Option Ctr) := ⟨CE.c⟩

def methF (P : Program) (T : Nat) (m : String) : Option Nat :=
  match P.info? T with
  | some i => match i.methods.find? (·.name == m), P.underlying T with
    | some r, some (.pointer _) => match r.path.toList, r.func with
      | [], some (f, true) => some f
      | _, _ => none
    | _, _ => none
  | none => none

end Go.Z

